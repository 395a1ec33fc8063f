/-
  No cell of these rows narrows 'for every input' (looked for: loops, veiled, ifaces, maps, wideKeys, modest, calm, conditions, laid).
  DERIVED. THE GIVEN ROWS OF THIS SEAT. 16 by the template 'for every input the law returns true; each argument reads behind the call as it read before'; 0 by the template 'total and deterministic' (their statements: YtfmcplkijjndlaaTotals.lean).
  GIVEN WITH THE SEED: the statements are not yours to turn. If you find one false, say at which input.
  Laid BY PROGRAM, IN A SANDBOX (cutbox-rows.mjs): the forced cells as the released guide's own fill.sh prints them over the translation f981160e7d4c3f85… (all of the seat's roots in one cut). By AI agents, Wed Nov 11 2026. No macro, syntax, notation, axiom, sorry.
-/
import Derived.Test.YtfmcplkijjndlaaChecked
import GoSem.Claim
import GoSem.ClaimJoined
import GoSem.ClaimMapViews
import Derived.JoinedTies
import Derived.KernelRfl
namespace Go.Proofs.Ytfmcplkijjndlaa
/- THE CELL 'sum', in the pinned program and in every row, IS THE sha256 OF THE DUMP (.gsa) THAT YtfmcplkijjndlaaProg.lean LOADS. Nothing in Lean hashes anything: it is a label: what it is worth is what the hold of that sum in a sandbox is worth. -/
noncomputable def Try.pinned : Pinned := { name := "ytfmcplkijjndlaa", sum := "f981160e7d4c3f854d1ca1ad6370919a3a1262d9186849e3d93bce0a1c94e6b1", checked := Try.checked }
namespace Rows
def none {H : Type} : Left H := { results := [], args := [] }

/-- 'moietylaw01.FloCanons': WHATEVER THE INPUT: true; the input reads as it did. -/
def floCanonsSpec : ChangeSpec := { name := "floCanons", fn := fun _ => fun
  | [d] => { results := [.lit (.bool true)], args := [d] }
  | _ => none }
def floCanonsRow : OpenClaim := { program := "ytfmcplkijjndlaa", sum := "f981160e7d4c3f854d1ca1ad6370919a3a1262d9186849e3d93bce0a1c94e6b1", func := "moiety/moietylaw01.FloCanons", spec := "floCanons", inPlace := ["math.Float64frombits", "math.Float64bits"], apart := false }
def FloCanonsSaid : Prop := floCanonsRow.holds Try.pinned (OpenSpec.ofChange floCanonsSpec)

/-- ITS FALSE NEIGHBOUR: 'it returns false'. Refute it at one input. -/
def floCanonsWrong : ChangeSpec := { name := "floCanons", fn := fun _ => fun
  | [d] => { results := [.lit (.bool false)], args := [d] }
  | _ => none }
def FloCanonsWrongFalsely : Prop := floCanonsRow.holds Try.pinned (OpenSpec.ofChange floCanonsWrong)

/-- 'moietylaw01.FloKeys': WHATEVER THE INPUT: true; the input reads as it did. -/
def floKeysSpec : ChangeSpec := { name := "floKeys", fn := fun _ => fun
  | [d] => { results := [.lit (.bool true)], args := [d] }
  | _ => none }
def floKeysRow : OpenClaim := { program := "ytfmcplkijjndlaa", sum := "f981160e7d4c3f854d1ca1ad6370919a3a1262d9186849e3d93bce0a1c94e6b1", func := "moiety/moietylaw01.FloKeys", spec := "floKeys", inPlace := ["math.Float64frombits", "math.Float64bits"], apart := false }
def FloKeysSaid : Prop := floKeysRow.holds Try.pinned (OpenSpec.ofChange floKeysSpec)

/-- ITS FALSE NEIGHBOUR: 'it returns false'. Refute it at one input. -/
def floKeysWrong : ChangeSpec := { name := "floKeys", fn := fun _ => fun
  | [d] => { results := [.lit (.bool false)], args := [d] }
  | _ => none }
def FloKeysWrongFalsely : Prop := floKeysRow.holds Try.pinned (OpenSpec.ofChange floKeysWrong)

/-- 'moietylaw01.FloOrders': WHATEVER THE INPUT: true; the input reads as it did. -/
def floOrdersSpec : ChangeSpec := { name := "floOrders", fn := fun _ => fun
  | [d1, d2] => { results := [.lit (.bool true)], args := [d1, d2] }
  | _ => none }
def floOrdersRow : OpenClaim := { program := "ytfmcplkijjndlaa", sum := "f981160e7d4c3f854d1ca1ad6370919a3a1262d9186849e3d93bce0a1c94e6b1", func := "moiety/moietylaw01.FloOrders", spec := "floOrders", inPlace := ["math.Float64frombits", "math.Float64bits"], apart := false }
def FloOrdersSaid : Prop := floOrdersRow.holds Try.pinned (OpenSpec.ofChange floOrdersSpec)

/-- ITS FALSE NEIGHBOUR: 'it returns false'. Refute it at one input. -/
def floOrdersWrong : ChangeSpec := { name := "floOrders", fn := fun _ => fun
  | [d1, d2] => { results := [.lit (.bool false)], args := [d1, d2] }
  | _ => none }
def FloOrdersWrongFalsely : Prop := floOrdersRow.holds Try.pinned (OpenSpec.ofChange floOrdersWrong)

/-- 'moietylaw01.FloBacks': WHATEVER THE INPUT: true; the input reads as it did. -/
def floBacksSpec : ChangeSpec := { name := "floBacks", fn := fun _ => fun
  | [d1, d2] => { results := [.lit (.bool true)], args := [d1, d2] }
  | _ => none }
def floBacksRow : OpenClaim := { program := "ytfmcplkijjndlaa", sum := "f981160e7d4c3f854d1ca1ad6370919a3a1262d9186849e3d93bce0a1c94e6b1", func := "moiety/moietylaw01.FloBacks", spec := "floBacks", inPlace := ["math.Float64frombits", "math.Float64bits"], apart := false }
def FloBacksSaid : Prop := floBacksRow.holds Try.pinned (OpenSpec.ofChange floBacksSpec)

/-- ITS FALSE NEIGHBOUR: 'it returns false'. Refute it at one input. -/
def floBacksWrong : ChangeSpec := { name := "floBacks", fn := fun _ => fun
  | [d1, d2] => { results := [.lit (.bool false)], args := [d1, d2] }
  | _ => none }
def FloBacksWrongFalsely : Prop := floBacksRow.holds Try.pinned (OpenSpec.ofChange floBacksWrong)

/-- 'moietylaw01.FloSums': WHATEVER THE INPUT: true; the input reads as it did. -/
def floSumsSpec : ChangeSpec := { name := "floSums", fn := fun _ => fun
  | [d1, d2] => { results := [.lit (.bool true)], args := [d1, d2] }
  | _ => none }
def floSumsRow : OpenClaim := { program := "ytfmcplkijjndlaa", sum := "f981160e7d4c3f854d1ca1ad6370919a3a1262d9186849e3d93bce0a1c94e6b1", func := "moiety/moietylaw01.FloSums", spec := "floSums", inPlace := ["math.Float64frombits", "math.Float64bits"], apart := false }
def FloSumsSaid : Prop := floSumsRow.holds Try.pinned (OpenSpec.ofChange floSumsSpec)

/-- ITS FALSE NEIGHBOUR: 'it returns false'. Refute it at one input. -/
def floSumsWrong : ChangeSpec := { name := "floSums", fn := fun _ => fun
  | [d1, d2] => { results := [.lit (.bool false)], args := [d1, d2] }
  | _ => none }
def FloSumsWrongFalsely : Prop := floSumsRow.holds Try.pinned (OpenSpec.ofChange floSumsWrong)

/-- 'moietylaw01.FloAbove': WHATEVER THE INPUT: true; the input reads as it did. -/
def floAboveSpec : ChangeSpec := { name := "floAbove", fn := fun _ => fun
  | [d1, d2] => { results := [.lit (.bool true)], args := [d1, d2] }
  | _ => none }
def floAboveRow : OpenClaim := { program := "ytfmcplkijjndlaa", sum := "f981160e7d4c3f854d1ca1ad6370919a3a1262d9186849e3d93bce0a1c94e6b1", func := "moiety/moietylaw01.FloAbove", spec := "floAbove", inPlace := ["math.Float64frombits", "math.Float64bits"], apart := false }
def FloAboveSaid : Prop := floAboveRow.holds Try.pinned (OpenSpec.ofChange floAboveSpec)

/-- ITS FALSE NEIGHBOUR: 'it returns false'. Refute it at one input. -/
def floAboveWrong : ChangeSpec := { name := "floAbove", fn := fun _ => fun
  | [d1, d2] => { results := [.lit (.bool false)], args := [d1, d2] }
  | _ => none }
def FloAboveWrongFalsely : Prop := floAboveRow.holds Try.pinned (OpenSpec.ofChange floAboveWrong)

/-- 'moietylaw01.FloLattice': WHATEVER THE INPUT: true; the input reads as it did. -/
def floLatticeSpec : ChangeSpec := { name := "floLattice", fn := fun _ => fun
  | [d1, d2, d3] => { results := [.lit (.bool true)], args := [d1, d2, d3] }
  | _ => none }
def floLatticeRow : OpenClaim := { program := "ytfmcplkijjndlaa", sum := "f981160e7d4c3f854d1ca1ad6370919a3a1262d9186849e3d93bce0a1c94e6b1", func := "moiety/moietylaw01.FloLattice", spec := "floLattice", inPlace := ["math.Float64frombits", "math.Float64bits"], apart := false }
def FloLatticeSaid : Prop := floLatticeRow.holds Try.pinned (OpenSpec.ofChange floLatticeSpec)

/-- ITS FALSE NEIGHBOUR: 'it returns false'. Refute it at one input. -/
def floLatticeWrong : ChangeSpec := { name := "floLattice", fn := fun _ => fun
  | [d1, d2, d3] => { results := [.lit (.bool false)], args := [d1, d2, d3] }
  | _ => none }
def FloLatticeWrongFalsely : Prop := floLatticeRow.holds Try.pinned (OpenSpec.ofChange floLatticeWrong)

/-- 'moietylaw01.FloEdges': WHATEVER THE INPUT: true; the input reads as it did. -/
def floEdgesSpec : ChangeSpec := { name := "floEdges", fn := fun _ => fun
  | [] => { results := [.lit (.bool true)], args := [] }
  | _ => none }
def floEdgesRow : OpenClaim := { program := "ytfmcplkijjndlaa", sum := "f981160e7d4c3f854d1ca1ad6370919a3a1262d9186849e3d93bce0a1c94e6b1", func := "moiety/moietylaw01.FloEdges", spec := "floEdges", inPlace := ["math.Float64frombits", "math.Float64bits"], apart := false }
def FloEdgesSaid : Prop := floEdgesRow.holds Try.pinned (OpenSpec.ofChange floEdgesSpec)

/-- ITS FALSE NEIGHBOUR: 'it returns false'. Refute it at one input. -/
def floEdgesWrong : ChangeSpec := { name := "floEdges", fn := fun _ => fun
  | [] => { results := [.lit (.bool false)], args := [] }
  | _ => none }
def FloEdgesWrongFalsely : Prop := floEdgesRow.holds Try.pinned (OpenSpec.ofChange floEdgesWrong)

/-- 'moietylaw02.PackBack': WHATEVER THE INPUT: true; the input reads as it did. -/
def packBackSpec : ChangeSpec := { name := "packBack", fn := fun _ => fun
  | [d] => { results := [.lit (.bool true)], args := [d] }
  | _ => none }
def packBackRow : OpenClaim := { program := "ytfmcplkijjndlaa", sum := "f981160e7d4c3f854d1ca1ad6370919a3a1262d9186849e3d93bce0a1c94e6b1", func := "moiety/moietylaw02.PackBack", spec := "packBack", inPlace := ["math.Float64frombits", "math.Float64bits"], unfollowed := true, recurses := true, apart := false }
def PackBackSaid : Prop := packBackRow.holds Try.pinned (OpenSpec.ofChange packBackSpec)

/-- ITS FALSE NEIGHBOUR: 'it returns false'. Refute it at one input. -/
def packBackWrong : ChangeSpec := { name := "packBack", fn := fun _ => fun
  | [d] => { results := [.lit (.bool false)], args := [d] }
  | _ => none }
def PackBackWrongFalsely : Prop := packBackRow.holds Try.pinned (OpenSpec.ofChange packBackWrong)

/-- 'moietylaw02.PackReads': WHATEVER THE INPUT: true; the input reads as it did. -/
def packReadsSpec : ChangeSpec := { name := "packReads", fn := fun _ => fun
  | [d1, d2, d3] => { results := [.lit (.bool true)], args := [d1, d2, d3] }
  | _ => none }
def packReadsRow : OpenClaim := { program := "ytfmcplkijjndlaa", sum := "f981160e7d4c3f854d1ca1ad6370919a3a1262d9186849e3d93bce0a1c94e6b1", func := "moiety/moietylaw02.PackReads", spec := "packReads", inPlace := ["math.Float64frombits", "math.Float64bits"], unfollowed := true, recurses := true, apart := false }
def PackReadsSaid : Prop := packReadsRow.holds Try.pinned (OpenSpec.ofChange packReadsSpec)

/-- ITS FALSE NEIGHBOUR: 'it returns false'. Refute it at one input. -/
def packReadsWrong : ChangeSpec := { name := "packReads", fn := fun _ => fun
  | [d1, d2, d3] => { results := [.lit (.bool false)], args := [d1, d2, d3] }
  | _ => none }
def PackReadsWrongFalsely : Prop := packReadsRow.holds Try.pinned (OpenSpec.ofChange packReadsWrong)

/-- 'moietylaw02.PackOne': WHATEVER THE INPUT: true; the input reads as it did. -/
def packOneSpec : ChangeSpec := { name := "packOne", fn := fun _ => fun
  | [d1, d2] => { results := [.lit (.bool true)], args := [d1, d2] }
  | _ => none }
def packOneRow : OpenClaim := { program := "ytfmcplkijjndlaa", sum := "f981160e7d4c3f854d1ca1ad6370919a3a1262d9186849e3d93bce0a1c94e6b1", func := "moiety/moietylaw02.PackOne", spec := "packOne", inPlace := ["math.Float64frombits", "math.Float64bits"], unfollowed := true, recurses := true, apart := false }
def PackOneSaid : Prop := packOneRow.holds Try.pinned (OpenSpec.ofChange packOneSpec)

/-- ITS FALSE NEIGHBOUR: 'it returns false'. Refute it at one input. -/
def packOneWrong : ChangeSpec := { name := "packOne", fn := fun _ => fun
  | [d1, d2] => { results := [.lit (.bool false)], args := [d1, d2] }
  | _ => none }
def PackOneWrongFalsely : Prop := packOneRow.holds Try.pinned (OpenSpec.ofChange packOneWrong)

/-- 'moietylaw02.PackCuts': WHATEVER THE INPUT: true; the input reads as it did. -/
def packCutsSpec : ChangeSpec := { name := "packCuts", fn := fun _ => fun
  | [d1, d2, d3] => { results := [.lit (.bool true)], args := [d1, d2, d3] }
  | _ => none }
def packCutsRow : OpenClaim := { program := "ytfmcplkijjndlaa", sum := "f981160e7d4c3f854d1ca1ad6370919a3a1262d9186849e3d93bce0a1c94e6b1", func := "moiety/moietylaw02.PackCuts", spec := "packCuts", inPlace := ["math.Float64frombits", "math.Float64bits"], unfollowed := true, recurses := true, apart := false }
def PackCutsSaid : Prop := packCutsRow.holds Try.pinned (OpenSpec.ofChange packCutsSpec)

/-- ITS FALSE NEIGHBOUR: 'it returns false'. Refute it at one input. -/
def packCutsWrong : ChangeSpec := { name := "packCuts", fn := fun _ => fun
  | [d1, d2, d3] => { results := [.lit (.bool false)], args := [d1, d2, d3] }
  | _ => none }
def PackCutsWrongFalsely : Prop := packCutsRow.holds Try.pinned (OpenSpec.ofChange packCutsWrong)

/-- 'moietylaw02.PackWrites': WHATEVER THE INPUT: true; the input reads as it did. -/
def packWritesSpec : ChangeSpec := { name := "packWrites", fn := fun _ => fun
  | [d] => { results := [.lit (.bool true)], args := [d] }
  | _ => none }
def packWritesRow : OpenClaim := { program := "ytfmcplkijjndlaa", sum := "f981160e7d4c3f854d1ca1ad6370919a3a1262d9186849e3d93bce0a1c94e6b1", func := "moiety/moietylaw02.PackWrites", spec := "packWrites", inPlace := ["math.Float64frombits", "math.Float64bits"], unfollowed := true, recurses := true, apart := false }
def PackWritesSaid : Prop := packWritesRow.holds Try.pinned (OpenSpec.ofChange packWritesSpec)

/-- ITS FALSE NEIGHBOUR: 'it returns false'. Refute it at one input. -/
def packWritesWrong : ChangeSpec := { name := "packWrites", fn := fun _ => fun
  | [d] => { results := [.lit (.bool false)], args := [d] }
  | _ => none }
def PackWritesWrongFalsely : Prop := packWritesRow.holds Try.pinned (OpenSpec.ofChange packWritesWrong)

/-- 'moietylaw02.PackFails': WHATEVER THE INPUT: true; the input reads as it did. -/
def packFailsSpec : ChangeSpec := { name := "packFails", fn := fun _ => fun
  | [d1, d2] => { results := [.lit (.bool true)], args := [d1, d2] }
  | _ => none }
def packFailsRow : OpenClaim := { program := "ytfmcplkijjndlaa", sum := "f981160e7d4c3f854d1ca1ad6370919a3a1262d9186849e3d93bce0a1c94e6b1", func := "moiety/moietylaw02.PackFails", spec := "packFails", inPlace := ["math.Float64frombits", "math.Float64bits"], unfollowed := true, recurses := true, apart := false }
def PackFailsSaid : Prop := packFailsRow.holds Try.pinned (OpenSpec.ofChange packFailsSpec)

/-- ITS FALSE NEIGHBOUR: 'it returns false'. Refute it at one input. -/
def packFailsWrong : ChangeSpec := { name := "packFails", fn := fun _ => fun
  | [d1, d2] => { results := [.lit (.bool false)], args := [d1, d2] }
  | _ => none }
def PackFailsWrongFalsely : Prop := packFailsRow.holds Try.pinned (OpenSpec.ofChange packFailsWrong)

/-- 'moietylaw02.PackOrders': WHATEVER THE INPUT: true; the input reads as it did. -/
def packOrdersSpec : ChangeSpec := { name := "packOrders", fn := fun _ => fun
  | [d1, d2] => { results := [.lit (.bool true)], args := [d1, d2] }
  | _ => none }
def packOrdersRow : OpenClaim := { program := "ytfmcplkijjndlaa", sum := "f981160e7d4c3f854d1ca1ad6370919a3a1262d9186849e3d93bce0a1c94e6b1", func := "moiety/moietylaw02.PackOrders", spec := "packOrders", inPlace := ["math.Float64frombits", "math.Float64bits"], unfollowed := true, recurses := true, apart := false }
def PackOrdersSaid : Prop := packOrdersRow.holds Try.pinned (OpenSpec.ofChange packOrdersSpec)

/-- ITS FALSE NEIGHBOUR: 'it returns false'. Refute it at one input. -/
def packOrdersWrong : ChangeSpec := { name := "packOrders", fn := fun _ => fun
  | [d1, d2] => { results := [.lit (.bool false)], args := [d1, d2] }
  | _ => none }
def PackOrdersWrongFalsely : Prop := packOrdersRow.holds Try.pinned (OpenSpec.ofChange packOrdersWrong)

/-- 'moietylaw02.PackUpto': WHATEVER THE INPUT: true; the input reads as it did. -/
def packUptoSpec : ChangeSpec := { name := "packUpto", fn := fun _ => fun
  | [d1, d2] => { results := [.lit (.bool true)], args := [d1, d2] }
  | _ => none }
def packUptoRow : OpenClaim := { program := "ytfmcplkijjndlaa", sum := "f981160e7d4c3f854d1ca1ad6370919a3a1262d9186849e3d93bce0a1c94e6b1", func := "moiety/moietylaw02.PackUpto", spec := "packUpto", inPlace := ["math.Float64frombits", "math.Float64bits"], unfollowed := true, recurses := true, apart := false }
def PackUptoSaid : Prop := packUptoRow.holds Try.pinned (OpenSpec.ofChange packUptoSpec)

/-- ITS FALSE NEIGHBOUR: 'it returns false'. Refute it at one input. -/
def packUptoWrong : ChangeSpec := { name := "packUpto", fn := fun _ => fun
  | [d1, d2] => { results := [.lit (.bool false)], args := [d1, d2] }
  | _ => none }
def PackUptoWrongFalsely : Prop := packUptoRow.holds Try.pinned (OpenSpec.ofChange packUptoWrong)

/- THE SECOND FORM. 'bulk': how many values and letters a reading holds, each counted each time it is reached (what is shared counts as often as it is met; a slice's spare places count too). A statement '..UptoSaid' is the law's where the arguments, and the package variables that the reading takes, are together of bulk at most 1048576: NARROWER than '..Said'. Prove '..Said' where nothing that the law and all that it calls make is longer than what came in: it says more and counts as full. Else prove '..UptoSaid'. A law counts once. -/
mutual
def uptoBulk {H : Type} : DataW H → Nat
  | .lit (.string bytes) => bytes.length + 1
  | .lit _ => 1
  | .nil => 1
  | .ptr d => uptoBulk d + 1
  | .slice elems spare => uptoBulkAll elems + uptoBulkAll spare + 1
  | .agg parts => uptoBulkAll parts + 1
  | .iface _ d => uptoBulk d + 1
  | .map entries => uptoBulkEntries entries + 1
  | .held _ => 1
def uptoBulkAll {H : Type} : List (DataW H) → Nat
  | [] => 0
  | d :: r => uptoBulk d + uptoBulkAll r
def uptoBulkEntries {H : Type} : List (Lit × DataW H) → Nat
  | [] => 0
  | x :: r => uptoBulkEntry x + uptoBulkEntries r
def uptoBulkEntry {H : Type} : Lit × DataW H → Nat
  | (.string bytes, d) => bytes.length + uptoBulk d + 1
  | (_, d) => uptoBulk d + 1
 end
def uptoSmall : (H : Type) → List (DataW H) → Bool := fun _ ds => decide (uptoBulkAll ds ≤ 1048576)
def OpenSpec.upto (s : _root_.Go.ChangeSpec) : _root_.Go.OpenSpec := { _root_.Go.OpenSpec.ofChange s with cond := some uptoSmall }

/-- 'moietylaw01.FloCanons', WHERE WHAT IT READS IS OF BULK AT MOST 1048576: true; the input reads as it did. -/
def floCanonsUptoRow : OpenClaim := { program := "ytfmcplkijjndlaa", sum := "f981160e7d4c3f854d1ca1ad6370919a3a1262d9186849e3d93bce0a1c94e6b1", func := "moiety/moietylaw01.FloCanons", spec := "floCanons", inPlace := ["math.Float64frombits", "math.Float64bits"], apart := false, narrowed := true }
def FloCanonsUptoSaid : Prop := floCanonsUptoRow.holds Try.pinned (OpenSpec.upto floCanonsSpec)

/-- 'moietylaw01.FloKeys', WHERE WHAT IT READS IS OF BULK AT MOST 1048576: true; the input reads as it did. -/
def floKeysUptoRow : OpenClaim := { program := "ytfmcplkijjndlaa", sum := "f981160e7d4c3f854d1ca1ad6370919a3a1262d9186849e3d93bce0a1c94e6b1", func := "moiety/moietylaw01.FloKeys", spec := "floKeys", inPlace := ["math.Float64frombits", "math.Float64bits"], apart := false, narrowed := true }
def FloKeysUptoSaid : Prop := floKeysUptoRow.holds Try.pinned (OpenSpec.upto floKeysSpec)

/-- 'moietylaw01.FloOrders', WHERE WHAT IT READS IS OF BULK AT MOST 1048576: true; the input reads as it did. -/
def floOrdersUptoRow : OpenClaim := { program := "ytfmcplkijjndlaa", sum := "f981160e7d4c3f854d1ca1ad6370919a3a1262d9186849e3d93bce0a1c94e6b1", func := "moiety/moietylaw01.FloOrders", spec := "floOrders", inPlace := ["math.Float64frombits", "math.Float64bits"], apart := false, narrowed := true }
def FloOrdersUptoSaid : Prop := floOrdersUptoRow.holds Try.pinned (OpenSpec.upto floOrdersSpec)

/-- 'moietylaw01.FloBacks', WHERE WHAT IT READS IS OF BULK AT MOST 1048576: true; the input reads as it did. -/
def floBacksUptoRow : OpenClaim := { program := "ytfmcplkijjndlaa", sum := "f981160e7d4c3f854d1ca1ad6370919a3a1262d9186849e3d93bce0a1c94e6b1", func := "moiety/moietylaw01.FloBacks", spec := "floBacks", inPlace := ["math.Float64frombits", "math.Float64bits"], apart := false, narrowed := true }
def FloBacksUptoSaid : Prop := floBacksUptoRow.holds Try.pinned (OpenSpec.upto floBacksSpec)

/-- 'moietylaw01.FloSums', WHERE WHAT IT READS IS OF BULK AT MOST 1048576: true; the input reads as it did. -/
def floSumsUptoRow : OpenClaim := { program := "ytfmcplkijjndlaa", sum := "f981160e7d4c3f854d1ca1ad6370919a3a1262d9186849e3d93bce0a1c94e6b1", func := "moiety/moietylaw01.FloSums", spec := "floSums", inPlace := ["math.Float64frombits", "math.Float64bits"], apart := false, narrowed := true }
def FloSumsUptoSaid : Prop := floSumsUptoRow.holds Try.pinned (OpenSpec.upto floSumsSpec)

/-- 'moietylaw01.FloAbove', WHERE WHAT IT READS IS OF BULK AT MOST 1048576: true; the input reads as it did. -/
def floAboveUptoRow : OpenClaim := { program := "ytfmcplkijjndlaa", sum := "f981160e7d4c3f854d1ca1ad6370919a3a1262d9186849e3d93bce0a1c94e6b1", func := "moiety/moietylaw01.FloAbove", spec := "floAbove", inPlace := ["math.Float64frombits", "math.Float64bits"], apart := false, narrowed := true }
def FloAboveUptoSaid : Prop := floAboveUptoRow.holds Try.pinned (OpenSpec.upto floAboveSpec)

/-- 'moietylaw01.FloLattice', WHERE WHAT IT READS IS OF BULK AT MOST 1048576: true; the input reads as it did. -/
def floLatticeUptoRow : OpenClaim := { program := "ytfmcplkijjndlaa", sum := "f981160e7d4c3f854d1ca1ad6370919a3a1262d9186849e3d93bce0a1c94e6b1", func := "moiety/moietylaw01.FloLattice", spec := "floLattice", inPlace := ["math.Float64frombits", "math.Float64bits"], apart := false, narrowed := true }
def FloLatticeUptoSaid : Prop := floLatticeUptoRow.holds Try.pinned (OpenSpec.upto floLatticeSpec)

/-- 'moietylaw01.FloEdges', WHERE WHAT IT READS IS OF BULK AT MOST 1048576: true; the input reads as it did. -/
def floEdgesUptoRow : OpenClaim := { program := "ytfmcplkijjndlaa", sum := "f981160e7d4c3f854d1ca1ad6370919a3a1262d9186849e3d93bce0a1c94e6b1", func := "moiety/moietylaw01.FloEdges", spec := "floEdges", inPlace := ["math.Float64frombits", "math.Float64bits"], apart := false, narrowed := true }
def FloEdgesUptoSaid : Prop := floEdgesUptoRow.holds Try.pinned (OpenSpec.upto floEdgesSpec)

/-- 'moietylaw02.PackBack', WHERE WHAT IT READS IS OF BULK AT MOST 1048576: true; the input reads as it did. -/
def packBackUptoRow : OpenClaim := { program := "ytfmcplkijjndlaa", sum := "f981160e7d4c3f854d1ca1ad6370919a3a1262d9186849e3d93bce0a1c94e6b1", func := "moiety/moietylaw02.PackBack", spec := "packBack", inPlace := ["math.Float64frombits", "math.Float64bits"], unfollowed := true, recurses := true, apart := false, narrowed := true }
def PackBackUptoSaid : Prop := packBackUptoRow.holds Try.pinned (OpenSpec.upto packBackSpec)

/-- 'moietylaw02.PackReads', WHERE WHAT IT READS IS OF BULK AT MOST 1048576: true; the input reads as it did. -/
def packReadsUptoRow : OpenClaim := { program := "ytfmcplkijjndlaa", sum := "f981160e7d4c3f854d1ca1ad6370919a3a1262d9186849e3d93bce0a1c94e6b1", func := "moiety/moietylaw02.PackReads", spec := "packReads", inPlace := ["math.Float64frombits", "math.Float64bits"], unfollowed := true, recurses := true, apart := false, narrowed := true }
def PackReadsUptoSaid : Prop := packReadsUptoRow.holds Try.pinned (OpenSpec.upto packReadsSpec)

/-- 'moietylaw02.PackOne', WHERE WHAT IT READS IS OF BULK AT MOST 1048576: true; the input reads as it did. -/
def packOneUptoRow : OpenClaim := { program := "ytfmcplkijjndlaa", sum := "f981160e7d4c3f854d1ca1ad6370919a3a1262d9186849e3d93bce0a1c94e6b1", func := "moiety/moietylaw02.PackOne", spec := "packOne", inPlace := ["math.Float64frombits", "math.Float64bits"], unfollowed := true, recurses := true, apart := false, narrowed := true }
def PackOneUptoSaid : Prop := packOneUptoRow.holds Try.pinned (OpenSpec.upto packOneSpec)

/-- 'moietylaw02.PackCuts', WHERE WHAT IT READS IS OF BULK AT MOST 1048576: true; the input reads as it did. -/
def packCutsUptoRow : OpenClaim := { program := "ytfmcplkijjndlaa", sum := "f981160e7d4c3f854d1ca1ad6370919a3a1262d9186849e3d93bce0a1c94e6b1", func := "moiety/moietylaw02.PackCuts", spec := "packCuts", inPlace := ["math.Float64frombits", "math.Float64bits"], unfollowed := true, recurses := true, apart := false, narrowed := true }
def PackCutsUptoSaid : Prop := packCutsUptoRow.holds Try.pinned (OpenSpec.upto packCutsSpec)

/-- 'moietylaw02.PackWrites', WHERE WHAT IT READS IS OF BULK AT MOST 1048576: true; the input reads as it did. -/
def packWritesUptoRow : OpenClaim := { program := "ytfmcplkijjndlaa", sum := "f981160e7d4c3f854d1ca1ad6370919a3a1262d9186849e3d93bce0a1c94e6b1", func := "moiety/moietylaw02.PackWrites", spec := "packWrites", inPlace := ["math.Float64frombits", "math.Float64bits"], unfollowed := true, recurses := true, apart := false, narrowed := true }
def PackWritesUptoSaid : Prop := packWritesUptoRow.holds Try.pinned (OpenSpec.upto packWritesSpec)

/-- 'moietylaw02.PackFails', WHERE WHAT IT READS IS OF BULK AT MOST 1048576: true; the input reads as it did. -/
def packFailsUptoRow : OpenClaim := { program := "ytfmcplkijjndlaa", sum := "f981160e7d4c3f854d1ca1ad6370919a3a1262d9186849e3d93bce0a1c94e6b1", func := "moiety/moietylaw02.PackFails", spec := "packFails", inPlace := ["math.Float64frombits", "math.Float64bits"], unfollowed := true, recurses := true, apart := false, narrowed := true }
def PackFailsUptoSaid : Prop := packFailsUptoRow.holds Try.pinned (OpenSpec.upto packFailsSpec)

/-- 'moietylaw02.PackOrders', WHERE WHAT IT READS IS OF BULK AT MOST 1048576: true; the input reads as it did. -/
def packOrdersUptoRow : OpenClaim := { program := "ytfmcplkijjndlaa", sum := "f981160e7d4c3f854d1ca1ad6370919a3a1262d9186849e3d93bce0a1c94e6b1", func := "moiety/moietylaw02.PackOrders", spec := "packOrders", inPlace := ["math.Float64frombits", "math.Float64bits"], unfollowed := true, recurses := true, apart := false, narrowed := true }
def PackOrdersUptoSaid : Prop := packOrdersUptoRow.holds Try.pinned (OpenSpec.upto packOrdersSpec)

/-- 'moietylaw02.PackUpto', WHERE WHAT IT READS IS OF BULK AT MOST 1048576: true; the input reads as it did. -/
def packUptoUptoRow : OpenClaim := { program := "ytfmcplkijjndlaa", sum := "f981160e7d4c3f854d1ca1ad6370919a3a1262d9186849e3d93bce0a1c94e6b1", func := "moiety/moietylaw02.PackUpto", spec := "packUpto", inPlace := ["math.Float64frombits", "math.Float64bits"], unfollowed := true, recurses := true, apart := false, narrowed := true }
def PackUptoUptoSaid : Prop := packUptoUptoRow.holds Try.pinned (OpenSpec.upto packUptoSpec)

end Rows
end Go.Proofs.Ytfmcplkijjndlaa
