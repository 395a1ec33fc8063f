/-
  DERIVED. GIVEN WITH THE SEED: THE CARDS: each row of YtieejbkbdfccdaaDoorRows.lean that lists a variable, with what it lists TIED to the program's text (the seventh form; the later family's looks); each row that meets fmt, with fmt's text TOLD by the authors' own Lean function (tested against real Go, not proved from fmt's source: count such statements apart). THE CARD IS WHAT COUNTS. Prove the row's statement (the work); the ties are given (YtieejbkbdfccdaaDoorTie.lean); close each card by the builder's one call (the guide's Derived/Test/ToyasCard.lean, 'card_holds'). Laid BY PROGRAM, IN A SANDBOX (cutbox-door.mjs). By AI agents, Wed Nov 11 2026. No macro, syntax, notation, axiom, sorry.
-/
import Derived.Test.YtieejbkbdfccdaaDoorRows
import GoSem.ClaimSeven
namespace Go.Proofs.YtieejbkbdfccdaaDoor
namespace Rows

/-- THE TIED CARD OF 'moietytop.WholePrefix'. -/
def wholePrefixCard : Claim7 := { stood := { row := wholePrefixRow, standIns := [], harness := (true, "ed6295f5aaac139cb3bb87e57eadfdb6eccfe3412346cde78e26a63490eb5540"), looks := false }, kinds := [], alts := [], laidByText := true, laidKinds := [.data], laidTests := true, laidLooks := .later }
def WholePrefixCardSaid : Prop := Claim7.holds Tryd.pinned (.plain (OpenSpec.ofChange wholePrefixSpec)) wholePrefixCard

/-- THE TIED CARD OF 'moietytop.WholeTraces'. -/
def wholeTracesCard : Claim7 := { stood := { row := wholeTracesRow, standIns := [], harness := (true, "ed6295f5aaac139cb3bb87e57eadfdb6eccfe3412346cde78e26a63490eb5540"), looks := false }, kinds := [], alts := [], laidByText := true, laidKinds := [.data], laidTests := true, laidLooks := .later }
def WholeTracesCardSaid : Prop := Claim7.holds Tryd.pinned (.plain (OpenSpec.ofChange wholeTracesSpec)) wholeTracesCard

/-- THE TIED CARD OF 'moietytop.WholeShares'. -/
def wholeSharesCard : Claim7 := { stood := { row := wholeSharesRow, standIns := [], harness := (true, "ed6295f5aaac139cb3bb87e57eadfdb6eccfe3412346cde78e26a63490eb5540"), looks := false }, kinds := [], alts := [], laidByText := true, laidKinds := [.data], laidTests := true, laidLooks := .later }
def WholeSharesCardSaid : Prop := Claim7.holds Tryd.pinned (.plain (OpenSpec.ofChange wholeSharesSpec)) wholeSharesCard

/-- THE SECOND FORM's CARD OF 'moietytop.WholePrefix'. -/
def wholePrefixUptoCard : Claim7 := { stood := { row := wholePrefixUptoRow, standIns := [], harness := (true, "ed6295f5aaac139cb3bb87e57eadfdb6eccfe3412346cde78e26a63490eb5540"), looks := false }, kinds := [], alts := [], laidByText := true, laidKinds := [.data], laidTests := true, laidLooks := .later }
def WholePrefixUptoCardSaid : Prop := Claim7.holds Tryd.pinned (.plain (OpenSpec.upto wholePrefixSpec)) wholePrefixUptoCard

/-- THE SECOND FORM's CARD OF 'moietytop.WholeTraces'. -/
def wholeTracesUptoCard : Claim7 := { stood := { row := wholeTracesUptoRow, standIns := [], harness := (true, "ed6295f5aaac139cb3bb87e57eadfdb6eccfe3412346cde78e26a63490eb5540"), looks := false }, kinds := [], alts := [], laidByText := true, laidKinds := [.data], laidTests := true, laidLooks := .later }
def WholeTracesUptoCardSaid : Prop := Claim7.holds Tryd.pinned (.plain (OpenSpec.upto wholeTracesSpec)) wholeTracesUptoCard

/-- THE SECOND FORM's CARD OF 'moietytop.WholeShares'. -/
def wholeSharesUptoCard : Claim7 := { stood := { row := wholeSharesUptoRow, standIns := [], harness := (true, "ed6295f5aaac139cb3bb87e57eadfdb6eccfe3412346cde78e26a63490eb5540"), looks := false }, kinds := [], alts := [], laidByText := true, laidKinds := [.data], laidTests := true, laidLooks := .later }
def WholeSharesUptoCardSaid : Prop := Claim7.holds Tryd.pinned (.plain (OpenSpec.upto wholeSharesSpec)) wholeSharesUptoCard
end Rows
end Go.Proofs.YtieejbkbdfccdaaDoor
