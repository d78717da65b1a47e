/-
  DERIVED. GIVEN WITH THE SEED: THE CARDS: each row of YtflkmdmceeefiaaDoorRows.lean that lists a variable, with what it lists TIED to the program's text (the seventh form; the later family's looks); each row that meets fmt, with fmt's text TOLD by the authors' own Lean function (tested against real Go, not proved from fmt's source: count such statements apart). THE CARD IS WHAT COUNTS. Prove the row's statement (the work); the ties are given (YtflkmdmceeefiaaDoorTie.lean); close each card by the builder's one call (the guide's Derived/Test/ToyasCard.lean, 'card_holds'). Laid BY PROGRAM, IN A SANDBOX (cutbox-door.mjs). By AI agents, Wed Nov 11 2026. No macro, syntax, notation, axiom, sorry.
-/
import Derived.Test.YtflkmdmceeefiaaDoorRows
import GoSem.ClaimSeven
namespace Go.Proofs.YtflkmdmceeefiaaDoor
namespace Rows

/-- THE TIED CARD OF 'diaeresislaw01.BufferSplices'. -/
def bufferSplicesCard : Claim7 := { stood := { row := bufferSplicesRow, standIns := [], harness := (true, "fa3d64d44ac6f68b77dc828523d2239c7568d681f1e064b0d0ff5163371026e4"), looks := true }, kinds := [], alts := [], laidByText := true, laidKinds := [.sentinel, .sentinel], laidTests := true, laidLooks := .later }
def BufferSplicesCardSaid : Prop := Claim7.holds Tryd.pinned (.plain (OpenSpec.ofChange bufferSplicesSpec)) bufferSplicesCard

/-- THE TIED CARD OF 'diaeresislaw01.BufferReads'. -/
def bufferReadsCard : Claim7 := { stood := { row := bufferReadsRow, standIns := [], harness := (true, "fa3d64d44ac6f68b77dc828523d2239c7568d681f1e064b0d0ff5163371026e4"), looks := true }, kinds := [], alts := [], laidByText := true, laidKinds := [.sentinel, .sentinel], laidTests := true, laidLooks := .later }
def BufferReadsCardSaid : Prop := Claim7.holds Tryd.pinned (.plain (OpenSpec.ofChange bufferReadsSpec)) bufferReadsCard

/-- THE TIED CARD OF 'diaeresislaw01.BufferBack'. -/
def bufferBackCard : Claim7 := { stood := { row := bufferBackRow, standIns := [], harness := (true, "fa3d64d44ac6f68b77dc828523d2239c7568d681f1e064b0d0ff5163371026e4"), looks := true }, kinds := [], alts := [], laidByText := true, laidKinds := [.sentinel, .sentinel], laidTests := true, laidLooks := .later }
def BufferBackCardSaid : Prop := Claim7.holds Tryd.pinned (.plain (OpenSpec.ofChange bufferBackSpec)) bufferBackCard

/-- THE TIED CARD OF 'diaeresislaw01.BufferParts'. -/
def bufferPartsCard : Claim7 := { stood := { row := bufferPartsRow, standIns := [], harness := (true, "fa3d64d44ac6f68b77dc828523d2239c7568d681f1e064b0d0ff5163371026e4"), looks := true }, kinds := [], alts := [], laidByText := true, laidKinds := [.sentinel, .sentinel], laidTests := true, laidLooks := .later }
def BufferPartsCardSaid : Prop := Claim7.holds Tryd.pinned (.plain (OpenSpec.ofChange bufferPartsSpec)) bufferPartsCard

/-- THE TIED CARD OF 'diaeresislaw01.BufferPieces'. -/
def bufferPiecesCard : Claim7 := { stood := { row := bufferPiecesRow, standIns := [], harness := (true, "fa3d64d44ac6f68b77dc828523d2239c7568d681f1e064b0d0ff5163371026e4"), looks := true }, kinds := [], alts := [], laidByText := true, laidKinds := [.sentinel, .sentinel], laidTests := true, laidLooks := .later }
def BufferPiecesCardSaid : Prop := Claim7.holds Tryd.pinned (.plain (OpenSpec.ofChange bufferPiecesSpec)) bufferPiecesCard

/-- THE TIED CARD OF 'diaeresislaw01.BufferNone'. -/
def bufferNoneCard : Claim7 := { stood := { row := bufferNoneRow, standIns := [], harness := (true, "fa3d64d44ac6f68b77dc828523d2239c7568d681f1e064b0d0ff5163371026e4"), looks := true }, kinds := [], alts := [], laidByText := true, laidKinds := [.sentinel, .sentinel], laidTests := true, laidLooks := .later }
def BufferNoneCardSaid : Prop := Claim7.holds Tryd.pinned (.plain (OpenSpec.ofChange bufferNoneSpec)) bufferNoneCard

/-- THE TIED CARD OF 'diaeresislaw01.BufferCompacts'. -/
def bufferCompactsCard : Claim7 := { stood := { row := bufferCompactsRow, standIns := [], harness := (true, "fa3d64d44ac6f68b77dc828523d2239c7568d681f1e064b0d0ff5163371026e4"), looks := true }, kinds := [], alts := [], laidByText := true, laidKinds := [.sentinel, .sentinel], laidTests := true, laidLooks := .later }
def BufferCompactsCardSaid : Prop := Claim7.holds Tryd.pinned (.plain (OpenSpec.ofChange bufferCompactsSpec)) bufferCompactsCard

/-- THE SECOND FORM's CARD OF 'diaeresislaw01.BufferSplices'. -/
def bufferSplicesUptoCard : Claim7 := { stood := { row := bufferSplicesUptoRow, standIns := [], harness := (true, "fa3d64d44ac6f68b77dc828523d2239c7568d681f1e064b0d0ff5163371026e4"), looks := true }, kinds := [], alts := [], laidByText := true, laidKinds := [.sentinel, .sentinel], laidTests := true, laidLooks := .later }
def BufferSplicesUptoCardSaid : Prop := Claim7.holds Tryd.pinned (.plain (OpenSpec.upto bufferSplicesSpec)) bufferSplicesUptoCard

/-- THE SECOND FORM's CARD OF 'diaeresislaw01.BufferReads'. -/
def bufferReadsUptoCard : Claim7 := { stood := { row := bufferReadsUptoRow, standIns := [], harness := (true, "fa3d64d44ac6f68b77dc828523d2239c7568d681f1e064b0d0ff5163371026e4"), looks := true }, kinds := [], alts := [], laidByText := true, laidKinds := [.sentinel, .sentinel], laidTests := true, laidLooks := .later }
def BufferReadsUptoCardSaid : Prop := Claim7.holds Tryd.pinned (.plain (OpenSpec.upto bufferReadsSpec)) bufferReadsUptoCard

/-- THE SECOND FORM's CARD OF 'diaeresislaw01.BufferBack'. -/
def bufferBackUptoCard : Claim7 := { stood := { row := bufferBackUptoRow, standIns := [], harness := (true, "fa3d64d44ac6f68b77dc828523d2239c7568d681f1e064b0d0ff5163371026e4"), looks := true }, kinds := [], alts := [], laidByText := true, laidKinds := [.sentinel, .sentinel], laidTests := true, laidLooks := .later }
def BufferBackUptoCardSaid : Prop := Claim7.holds Tryd.pinned (.plain (OpenSpec.upto bufferBackSpec)) bufferBackUptoCard

/-- THE SECOND FORM's CARD OF 'diaeresislaw01.BufferParts'. -/
def bufferPartsUptoCard : Claim7 := { stood := { row := bufferPartsUptoRow, standIns := [], harness := (true, "fa3d64d44ac6f68b77dc828523d2239c7568d681f1e064b0d0ff5163371026e4"), looks := true }, kinds := [], alts := [], laidByText := true, laidKinds := [.sentinel, .sentinel], laidTests := true, laidLooks := .later }
def BufferPartsUptoCardSaid : Prop := Claim7.holds Tryd.pinned (.plain (OpenSpec.upto bufferPartsSpec)) bufferPartsUptoCard

/-- THE SECOND FORM's CARD OF 'diaeresislaw01.BufferPieces'. -/
def bufferPiecesUptoCard : Claim7 := { stood := { row := bufferPiecesUptoRow, standIns := [], harness := (true, "fa3d64d44ac6f68b77dc828523d2239c7568d681f1e064b0d0ff5163371026e4"), looks := true }, kinds := [], alts := [], laidByText := true, laidKinds := [.sentinel, .sentinel], laidTests := true, laidLooks := .later }
def BufferPiecesUptoCardSaid : Prop := Claim7.holds Tryd.pinned (.plain (OpenSpec.upto bufferPiecesSpec)) bufferPiecesUptoCard

/-- THE SECOND FORM's CARD OF 'diaeresislaw01.BufferNone'. -/
def bufferNoneUptoCard : Claim7 := { stood := { row := bufferNoneUptoRow, standIns := [], harness := (true, "fa3d64d44ac6f68b77dc828523d2239c7568d681f1e064b0d0ff5163371026e4"), looks := true }, kinds := [], alts := [], laidByText := true, laidKinds := [.sentinel, .sentinel], laidTests := true, laidLooks := .later }
def BufferNoneUptoCardSaid : Prop := Claim7.holds Tryd.pinned (.plain (OpenSpec.upto bufferNoneSpec)) bufferNoneUptoCard

/-- THE SECOND FORM's CARD OF 'diaeresislaw01.BufferCompacts'. -/
def bufferCompactsUptoCard : Claim7 := { stood := { row := bufferCompactsUptoRow, standIns := [], harness := (true, "fa3d64d44ac6f68b77dc828523d2239c7568d681f1e064b0d0ff5163371026e4"), looks := true }, kinds := [], alts := [], laidByText := true, laidKinds := [.sentinel, .sentinel], laidTests := true, laidLooks := .later }
def BufferCompactsUptoCardSaid : Prop := Claim7.holds Tryd.pinned (.plain (OpenSpec.upto bufferCompactsSpec)) bufferCompactsUptoCard
end Rows
end Go.Proofs.YtflkmdmceeefiaaDoor
