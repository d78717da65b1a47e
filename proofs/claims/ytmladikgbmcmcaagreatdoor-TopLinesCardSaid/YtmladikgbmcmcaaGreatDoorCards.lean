/-
  DERIVED. GIVEN WITH THE SEED: THE CARDS: each row of YtmladikgbmcmcaaGreatDoorRows.lean that lists a variable, with what it lists TIED to the program's text (the seventh form; the later family's looks); each row that meets fmt, with fmt's text TOLD by the authors' own Lean function (tested against real Go, not proved from fmt's source: count such statements apart). THE CARD IS WHAT COUNTS. Prove the row's statement (the work); the ties are given (YtmladikgbmcmcaaGreatDoorTie.lean); close each card by the builder's one call (the guide's Derived/Test/ToyasCard.lean, 'card_holds'). Laid BY PROGRAM, IN A SANDBOX (cutbox-door.mjs). By AI agents, Wed Nov 11 2026. No macro, syntax, notation, axiom, sorry.
-/
import Derived.Test.YtmladikgbmcmcaaGreatDoorRows
import GoSem.ClaimSeven
namespace Go.Proofs.YtmladikgbmcmcaaGreatDoor
namespace Rows

/-- THE TIED CARD OF 'diaeresistop.TopLines'. -/
def topLinesCard : Claim7 := { stood := { row := topLinesRow, standIns := [], harness := (true, "fb7a1bee8962e2c515686a089f913c148afc45919f517f90259d0b15b7c0a9e8"), looks := true }, kinds := [], alts := [], laidByText := true, laidKinds := [.sentinel, .sentinel, .pinned, .data, .sentinel, .handle, .sentinel, .sentinel, .data, .data, .data, .sentinel, .sentinel, .sentinel, .sentinel, .sentinel, .sentinel], laidTests := true, laidLooks := .later }
def TopLinesCardSaid : Prop := Claim7.holds Tryz.pinned (.plain (OpenSpec.ofChange topLinesSpec)) topLinesCard

/-- THE TIED CARD OF 'diaeresistop.TopErrors'. -/
def topErrorsCard : Claim7 := { stood := { row := topErrorsRow, standIns := [], harness := (true, "fb7a1bee8962e2c515686a089f913c148afc45919f517f90259d0b15b7c0a9e8"), looks := true }, kinds := [], alts := [], laidByText := true, laidKinds := [.sentinel, .sentinel, .pinned, .data, .sentinel, .handle, .sentinel, .sentinel, .data, .data, .data, .sentinel, .sentinel, .sentinel, .sentinel, .sentinel, .sentinel], laidTests := true, laidLooks := .later }
def TopErrorsCardSaid : Prop := Claim7.holds Tryz.pinned (.plain (OpenSpec.ofChange topErrorsSpec)) topErrorsCard

/-- THE SECOND FORM's CARD OF 'diaeresistop.TopLines'. -/
def topLinesUptoCard : Claim7 := { stood := { row := topLinesUptoRow, standIns := [], harness := (true, "fb7a1bee8962e2c515686a089f913c148afc45919f517f90259d0b15b7c0a9e8"), looks := true }, kinds := [], alts := [], laidByText := true, laidKinds := [.sentinel, .sentinel, .pinned, .data, .sentinel, .handle, .sentinel, .sentinel, .data, .data, .data, .sentinel, .sentinel, .sentinel, .sentinel, .sentinel, .sentinel], laidTests := true, laidLooks := .later }
def TopLinesUptoCardSaid : Prop := Claim7.holds Tryz.pinned (.plain (OpenSpec.upto topLinesSpec)) topLinesUptoCard

/-- THE SECOND FORM's CARD OF 'diaeresistop.TopErrors'. -/
def topErrorsUptoCard : Claim7 := { stood := { row := topErrorsUptoRow, standIns := [], harness := (true, "fb7a1bee8962e2c515686a089f913c148afc45919f517f90259d0b15b7c0a9e8"), looks := true }, kinds := [], alts := [], laidByText := true, laidKinds := [.sentinel, .sentinel, .pinned, .data, .sentinel, .handle, .sentinel, .sentinel, .data, .data, .data, .sentinel, .sentinel, .sentinel, .sentinel, .sentinel, .sentinel], laidTests := true, laidLooks := .later }
def TopErrorsUptoCardSaid : Prop := Claim7.holds Tryz.pinned (.plain (OpenSpec.upto topErrorsSpec)) topErrorsUptoCard
end Rows
end Go.Proofs.YtmladikgbmcmcaaGreatDoor
