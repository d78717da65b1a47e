/-
  NARROWER THAN 'FOR EVERY INPUT', by the rows' own cells (each row's printed sentence says how): BufferSplices: laid · BufferReads: laid · BufferBack: laid · BufferParts: laid · BufferPieces: laid · BufferNone: laid · BufferCompacts: laid.
  DERIVED. THE GIVEN ROWS OF THIS SEAT. 7 by the template 'for every input the law returns true; each argument reads behind the call as it read before'; 0 by the template 'total and deterministic' (their statements: YtflkmdmceeefiaaDoorTotals.lean).
  GIVEN WITH THE SEED: the statements are not yours to turn. If you find one false, say at which input.
  Laid BY PROGRAM, IN A SANDBOX (cutbox-rows.mjs): the forced cells as the released guide's own fill.sh prints them over the translation 11d835709cdf25ba… (all of the seat's roots in one cut). By AI agents, Wed Nov 11 2026. No macro, syntax, notation, axiom, sorry.
-/
import Derived.Test.YtflkmdmceeefiaaDoorChecked
import GoSem.Claim
import GoSem.ClaimJoined
import GoSem.ClaimMapViews
import Derived.JoinedTies
import Derived.KernelRfl
namespace Go.Proofs.YtflkmdmceeefiaaDoor
/- THE CELL 'sum', in the pinned program and in every row, IS THE sha256 OF THE DUMP (.gsa) THAT YtflkmdmceeefiaaDoorProg.lean LOADS. Nothing in Lean hashes anything: it is a label: what it is worth is what the hold of that sum in a sandbox is worth. -/
noncomputable def Tryd.pinned : Pinned := { name := "ytflkmdmceeefiaadoor", sum := "11d835709cdf25ba24a2df49741c063fa0dc433240784c40ff04c58356954b6f", checked := Tryd.checked }
namespace Rows
def none {H : Type} : Left H := { results := [], args := [] }

/- WHAT THE LISTED PACKAGE-LEVEL VARIABLES READ AS WHEN THE CALL BEGINS. Each datum BY PROGRAM (the guide's laid-datum.mjs) off the statement by which the dump's own 'gosem.cut.vars' lays the variable. In a bare row this is a premise. The card (YtflkmdmceeefiaaDoorCards.lean) ties it to the program's text. -/
def laid_diaeresis_buffer_errRange {H : Type} : DataW H := .iface "*errors.errorString" (.ptr (.agg [.lit (.string [111, 117, 116, 32, 111, 102, 32, 114, 97, 110, 103, 101])]))
def laid_diaeresis_buffer_errFull {H : Type} : DataW H := .iface "*errors.errorString" (.ptr (.agg [.lit (.string [116, 111, 111, 32, 108, 111, 110, 103])]))

/-- 'diaeresislaw01.BufferSplices': WHATEVER THE INPUT: true; the input reads as it did. -/
def bufferSplicesSpec : ChangeSpec := { name := "bufferSplices", fn := fun _ => fun
  | [d1, d2] => { results := [.lit (.bool true)], args := [d1, d2] }
  | _ => none }
def bufferSplicesRow : OpenClaim := { program := "ytflkmdmceeefiaadoor", sum := "11d835709cdf25ba24a2df49741c063fa0dc433240784c40ff04c58356954b6f", func := "diaeresis/diaeresislaw01.BufferSplices", spec := "bufferSplices", inPlace := ["internal/reflectlite.TypeOf", "internal/abi.NoEscape"], unfollowed := true, recurses := true, named := ["diaeresis/buffer.errFull", "diaeresis/buffer.errRange"], apart := false, laid := [("diaeresis/buffer.errRange", laid_diaeresis_buffer_errRange), ("diaeresis/buffer.errFull", laid_diaeresis_buffer_errFull)] }
def BufferSplicesSaid : Prop := bufferSplicesRow.holds Tryd.pinned (OpenSpec.ofChange bufferSplicesSpec)

/-- ITS FALSE NEIGHBOUR: 'it returns false'. Refute it at one input. -/
def bufferSplicesWrong : ChangeSpec := { name := "bufferSplices", fn := fun _ => fun
  | [d1, d2] => { results := [.lit (.bool false)], args := [d1, d2] }
  | _ => none }
def BufferSplicesWrongFalsely : Prop := bufferSplicesRow.holds Tryd.pinned (OpenSpec.ofChange bufferSplicesWrong)

/-- 'diaeresislaw01.BufferReads': WHATEVER THE INPUT: true; the input reads as it did. -/
def bufferReadsSpec : ChangeSpec := { name := "bufferReads", fn := fun _ => fun
  | [d1, d2, d3, d4] => { results := [.lit (.bool true)], args := [d1, d2, d3, d4] }
  | _ => none }
def bufferReadsRow : OpenClaim := { program := "ytflkmdmceeefiaadoor", sum := "11d835709cdf25ba24a2df49741c063fa0dc433240784c40ff04c58356954b6f", func := "diaeresis/diaeresislaw01.BufferReads", spec := "bufferReads", inPlace := ["internal/reflectlite.TypeOf", "internal/abi.NoEscape"], unfollowed := true, recurses := true, named := ["diaeresis/buffer.errFull", "diaeresis/buffer.errRange"], apart := false, laid := [("diaeresis/buffer.errRange", laid_diaeresis_buffer_errRange), ("diaeresis/buffer.errFull", laid_diaeresis_buffer_errFull)] }
def BufferReadsSaid : Prop := bufferReadsRow.holds Tryd.pinned (OpenSpec.ofChange bufferReadsSpec)

/-- ITS FALSE NEIGHBOUR: 'it returns false'. Refute it at one input. -/
def bufferReadsWrong : ChangeSpec := { name := "bufferReads", fn := fun _ => fun
  | [d1, d2, d3, d4] => { results := [.lit (.bool false)], args := [d1, d2, d3, d4] }
  | _ => none }
def BufferReadsWrongFalsely : Prop := bufferReadsRow.holds Tryd.pinned (OpenSpec.ofChange bufferReadsWrong)

/-- 'diaeresislaw01.BufferBack': WHATEVER THE INPUT: true; the input reads as it did. -/
def bufferBackSpec : ChangeSpec := { name := "bufferBack", fn := fun _ => fun
  | [d1, d2, d3, d4] => { results := [.lit (.bool true)], args := [d1, d2, d3, d4] }
  | _ => none }
def bufferBackRow : OpenClaim := { program := "ytflkmdmceeefiaadoor", sum := "11d835709cdf25ba24a2df49741c063fa0dc433240784c40ff04c58356954b6f", func := "diaeresis/diaeresislaw01.BufferBack", spec := "bufferBack", inPlace := ["internal/reflectlite.TypeOf", "internal/abi.NoEscape"], unfollowed := true, recurses := true, named := ["diaeresis/buffer.errFull", "diaeresis/buffer.errRange"], apart := false, laid := [("diaeresis/buffer.errRange", laid_diaeresis_buffer_errRange), ("diaeresis/buffer.errFull", laid_diaeresis_buffer_errFull)] }
def BufferBackSaid : Prop := bufferBackRow.holds Tryd.pinned (OpenSpec.ofChange bufferBackSpec)

/-- ITS FALSE NEIGHBOUR: 'it returns false'. Refute it at one input. -/
def bufferBackWrong : ChangeSpec := { name := "bufferBack", fn := fun _ => fun
  | [d1, d2, d3, d4] => { results := [.lit (.bool false)], args := [d1, d2, d3, d4] }
  | _ => none }
def BufferBackWrongFalsely : Prop := bufferBackRow.holds Tryd.pinned (OpenSpec.ofChange bufferBackWrong)

/-- 'diaeresislaw01.BufferParts': WHATEVER THE INPUT: true; the input reads as it did. -/
def bufferPartsSpec : ChangeSpec := { name := "bufferParts", fn := fun _ => fun
  | [d1, d2, d3] => { results := [.lit (.bool true)], args := [d1, d2, d3] }
  | _ => none }
def bufferPartsRow : OpenClaim := { program := "ytflkmdmceeefiaadoor", sum := "11d835709cdf25ba24a2df49741c063fa0dc433240784c40ff04c58356954b6f", func := "diaeresis/diaeresislaw01.BufferParts", spec := "bufferParts", inPlace := ["internal/reflectlite.TypeOf", "internal/abi.NoEscape"], unfollowed := true, recurses := true, named := ["diaeresis/buffer.errFull", "diaeresis/buffer.errRange"], apart := false, laid := [("diaeresis/buffer.errRange", laid_diaeresis_buffer_errRange), ("diaeresis/buffer.errFull", laid_diaeresis_buffer_errFull)] }
def BufferPartsSaid : Prop := bufferPartsRow.holds Tryd.pinned (OpenSpec.ofChange bufferPartsSpec)

/-- ITS FALSE NEIGHBOUR: 'it returns false'. Refute it at one input. -/
def bufferPartsWrong : ChangeSpec := { name := "bufferParts", fn := fun _ => fun
  | [d1, d2, d3] => { results := [.lit (.bool false)], args := [d1, d2, d3] }
  | _ => none }
def BufferPartsWrongFalsely : Prop := bufferPartsRow.holds Tryd.pinned (OpenSpec.ofChange bufferPartsWrong)

/-- 'diaeresislaw01.BufferPieces': WHATEVER THE INPUT: true; the input reads as it did. -/
def bufferPiecesSpec : ChangeSpec := { name := "bufferPieces", fn := fun _ => fun
  | [d1, d2] => { results := [.lit (.bool true)], args := [d1, d2] }
  | _ => none }
def bufferPiecesRow : OpenClaim := { program := "ytflkmdmceeefiaadoor", sum := "11d835709cdf25ba24a2df49741c063fa0dc433240784c40ff04c58356954b6f", func := "diaeresis/diaeresislaw01.BufferPieces", spec := "bufferPieces", inPlace := ["internal/reflectlite.TypeOf", "internal/abi.NoEscape"], unfollowed := true, recurses := true, named := ["diaeresis/buffer.errFull", "diaeresis/buffer.errRange"], apart := false, laid := [("diaeresis/buffer.errRange", laid_diaeresis_buffer_errRange), ("diaeresis/buffer.errFull", laid_diaeresis_buffer_errFull)] }
def BufferPiecesSaid : Prop := bufferPiecesRow.holds Tryd.pinned (OpenSpec.ofChange bufferPiecesSpec)

/-- ITS FALSE NEIGHBOUR: 'it returns false'. Refute it at one input. -/
def bufferPiecesWrong : ChangeSpec := { name := "bufferPieces", fn := fun _ => fun
  | [d1, d2] => { results := [.lit (.bool false)], args := [d1, d2] }
  | _ => none }
def BufferPiecesWrongFalsely : Prop := bufferPiecesRow.holds Tryd.pinned (OpenSpec.ofChange bufferPiecesWrong)

/-- 'diaeresislaw01.BufferNone': WHATEVER THE INPUT: true; the input reads as it did. -/
def bufferNoneSpec : ChangeSpec := { name := "bufferNone", fn := fun _ => fun
  | [d1, d2, d3] => { results := [.lit (.bool true)], args := [d1, d2, d3] }
  | _ => none }
def bufferNoneRow : OpenClaim := { program := "ytflkmdmceeefiaadoor", sum := "11d835709cdf25ba24a2df49741c063fa0dc433240784c40ff04c58356954b6f", func := "diaeresis/diaeresislaw01.BufferNone", spec := "bufferNone", inPlace := ["internal/reflectlite.TypeOf", "internal/abi.NoEscape"], unfollowed := true, recurses := true, named := ["diaeresis/buffer.errFull", "diaeresis/buffer.errRange"], apart := false, laid := [("diaeresis/buffer.errRange", laid_diaeresis_buffer_errRange), ("diaeresis/buffer.errFull", laid_diaeresis_buffer_errFull)] }
def BufferNoneSaid : Prop := bufferNoneRow.holds Tryd.pinned (OpenSpec.ofChange bufferNoneSpec)

/-- ITS FALSE NEIGHBOUR: 'it returns false'. Refute it at one input. -/
def bufferNoneWrong : ChangeSpec := { name := "bufferNone", fn := fun _ => fun
  | [d1, d2, d3] => { results := [.lit (.bool false)], args := [d1, d2, d3] }
  | _ => none }
def BufferNoneWrongFalsely : Prop := bufferNoneRow.holds Tryd.pinned (OpenSpec.ofChange bufferNoneWrong)

/-- 'diaeresislaw01.BufferCompacts': WHATEVER THE INPUT: true; the input reads as it did. -/
def bufferCompactsSpec : ChangeSpec := { name := "bufferCompacts", fn := fun _ => fun
  | [d1, d2] => { results := [.lit (.bool true)], args := [d1, d2] }
  | _ => none }
def bufferCompactsRow : OpenClaim := { program := "ytflkmdmceeefiaadoor", sum := "11d835709cdf25ba24a2df49741c063fa0dc433240784c40ff04c58356954b6f", func := "diaeresis/diaeresislaw01.BufferCompacts", spec := "bufferCompacts", inPlace := ["internal/reflectlite.TypeOf", "internal/abi.NoEscape"], unfollowed := true, recurses := true, named := ["diaeresis/buffer.errFull", "diaeresis/buffer.errRange"], apart := false, laid := [("diaeresis/buffer.errRange", laid_diaeresis_buffer_errRange), ("diaeresis/buffer.errFull", laid_diaeresis_buffer_errFull)] }
def BufferCompactsSaid : Prop := bufferCompactsRow.holds Tryd.pinned (OpenSpec.ofChange bufferCompactsSpec)

/-- ITS FALSE NEIGHBOUR: 'it returns false'. Refute it at one input. -/
def bufferCompactsWrong : ChangeSpec := { name := "bufferCompacts", fn := fun _ => fun
  | [d1, d2] => { results := [.lit (.bool false)], args := [d1, d2] }
  | _ => none }
def BufferCompactsWrongFalsely : Prop := bufferCompactsRow.holds Tryd.pinned (OpenSpec.ofChange bufferCompactsWrong)

/- THE SECOND FORM. 'bulk': how many values and letters a reading holds, each counted each time it is reached (what is shared counts as often as it is met; a slice's spare places count too). A statement '..UptoSaid' is the law's where the arguments, and the package variables that the reading takes, are together of bulk at most 1048576: NARROWER than '..Said'. Prove '..Said' where nothing that the law and all that it calls make is longer than what came in: it says more and counts as full. Else prove '..UptoSaid'. A law counts once. -/
mutual
def uptoBulk {H : Type} : DataW H → Nat
  | .lit (.string bytes) => bytes.length + 1
  | .lit _ => 1
  | .nil => 1
  | .ptr d => uptoBulk d + 1
  | .slice elems spare => uptoBulkAll elems + uptoBulkAll spare + 1
  | .agg parts => uptoBulkAll parts + 1
  | .iface _ d => uptoBulk d + 1
  | .map entries => uptoBulkEntries entries + 1
  | .held _ => 1
def uptoBulkAll {H : Type} : List (DataW H) → Nat
  | [] => 0
  | d :: r => uptoBulk d + uptoBulkAll r
def uptoBulkEntries {H : Type} : List (Lit × DataW H) → Nat
  | [] => 0
  | x :: r => uptoBulkEntry x + uptoBulkEntries r
def uptoBulkEntry {H : Type} : Lit × DataW H → Nat
  | (.string bytes, d) => bytes.length + uptoBulk d + 1
  | (_, d) => uptoBulk d + 1
 end
def uptoSmall : (H : Type) → List (DataW H) → Bool := fun _ ds => decide (uptoBulkAll ds ≤ 1048576)
def OpenSpec.upto (s : _root_.Go.ChangeSpec) : _root_.Go.OpenSpec := { _root_.Go.OpenSpec.ofChange s with cond := some uptoSmall }

/-- 'diaeresislaw01.BufferSplices', WHERE WHAT IT READS IS OF BULK AT MOST 1048576: true; the input reads as it did. -/
def bufferSplicesUptoRow : OpenClaim := { program := "ytflkmdmceeefiaadoor", sum := "11d835709cdf25ba24a2df49741c063fa0dc433240784c40ff04c58356954b6f", func := "diaeresis/diaeresislaw01.BufferSplices", spec := "bufferSplices", inPlace := ["internal/reflectlite.TypeOf", "internal/abi.NoEscape"], unfollowed := true, recurses := true, named := ["diaeresis/buffer.errFull", "diaeresis/buffer.errRange"], apart := false, laid := [("diaeresis/buffer.errRange", laid_diaeresis_buffer_errRange), ("diaeresis/buffer.errFull", laid_diaeresis_buffer_errFull)], narrowed := true }
def BufferSplicesUptoSaid : Prop := bufferSplicesUptoRow.holds Tryd.pinned (OpenSpec.upto bufferSplicesSpec)

/-- 'diaeresislaw01.BufferReads', WHERE WHAT IT READS IS OF BULK AT MOST 1048576: true; the input reads as it did. -/
def bufferReadsUptoRow : OpenClaim := { program := "ytflkmdmceeefiaadoor", sum := "11d835709cdf25ba24a2df49741c063fa0dc433240784c40ff04c58356954b6f", func := "diaeresis/diaeresislaw01.BufferReads", spec := "bufferReads", inPlace := ["internal/reflectlite.TypeOf", "internal/abi.NoEscape"], unfollowed := true, recurses := true, named := ["diaeresis/buffer.errFull", "diaeresis/buffer.errRange"], apart := false, laid := [("diaeresis/buffer.errRange", laid_diaeresis_buffer_errRange), ("diaeresis/buffer.errFull", laid_diaeresis_buffer_errFull)], narrowed := true }
def BufferReadsUptoSaid : Prop := bufferReadsUptoRow.holds Tryd.pinned (OpenSpec.upto bufferReadsSpec)

/-- 'diaeresislaw01.BufferBack', WHERE WHAT IT READS IS OF BULK AT MOST 1048576: true; the input reads as it did. -/
def bufferBackUptoRow : OpenClaim := { program := "ytflkmdmceeefiaadoor", sum := "11d835709cdf25ba24a2df49741c063fa0dc433240784c40ff04c58356954b6f", func := "diaeresis/diaeresislaw01.BufferBack", spec := "bufferBack", inPlace := ["internal/reflectlite.TypeOf", "internal/abi.NoEscape"], unfollowed := true, recurses := true, named := ["diaeresis/buffer.errFull", "diaeresis/buffer.errRange"], apart := false, laid := [("diaeresis/buffer.errRange", laid_diaeresis_buffer_errRange), ("diaeresis/buffer.errFull", laid_diaeresis_buffer_errFull)], narrowed := true }
def BufferBackUptoSaid : Prop := bufferBackUptoRow.holds Tryd.pinned (OpenSpec.upto bufferBackSpec)

/-- 'diaeresislaw01.BufferParts', WHERE WHAT IT READS IS OF BULK AT MOST 1048576: true; the input reads as it did. -/
def bufferPartsUptoRow : OpenClaim := { program := "ytflkmdmceeefiaadoor", sum := "11d835709cdf25ba24a2df49741c063fa0dc433240784c40ff04c58356954b6f", func := "diaeresis/diaeresislaw01.BufferParts", spec := "bufferParts", inPlace := ["internal/reflectlite.TypeOf", "internal/abi.NoEscape"], unfollowed := true, recurses := true, named := ["diaeresis/buffer.errFull", "diaeresis/buffer.errRange"], apart := false, laid := [("diaeresis/buffer.errRange", laid_diaeresis_buffer_errRange), ("diaeresis/buffer.errFull", laid_diaeresis_buffer_errFull)], narrowed := true }
def BufferPartsUptoSaid : Prop := bufferPartsUptoRow.holds Tryd.pinned (OpenSpec.upto bufferPartsSpec)

/-- 'diaeresislaw01.BufferPieces', WHERE WHAT IT READS IS OF BULK AT MOST 1048576: true; the input reads as it did. -/
def bufferPiecesUptoRow : OpenClaim := { program := "ytflkmdmceeefiaadoor", sum := "11d835709cdf25ba24a2df49741c063fa0dc433240784c40ff04c58356954b6f", func := "diaeresis/diaeresislaw01.BufferPieces", spec := "bufferPieces", inPlace := ["internal/reflectlite.TypeOf", "internal/abi.NoEscape"], unfollowed := true, recurses := true, named := ["diaeresis/buffer.errFull", "diaeresis/buffer.errRange"], apart := false, laid := [("diaeresis/buffer.errRange", laid_diaeresis_buffer_errRange), ("diaeresis/buffer.errFull", laid_diaeresis_buffer_errFull)], narrowed := true }
def BufferPiecesUptoSaid : Prop := bufferPiecesUptoRow.holds Tryd.pinned (OpenSpec.upto bufferPiecesSpec)

/-- 'diaeresislaw01.BufferNone', WHERE WHAT IT READS IS OF BULK AT MOST 1048576: true; the input reads as it did. -/
def bufferNoneUptoRow : OpenClaim := { program := "ytflkmdmceeefiaadoor", sum := "11d835709cdf25ba24a2df49741c063fa0dc433240784c40ff04c58356954b6f", func := "diaeresis/diaeresislaw01.BufferNone", spec := "bufferNone", inPlace := ["internal/reflectlite.TypeOf", "internal/abi.NoEscape"], unfollowed := true, recurses := true, named := ["diaeresis/buffer.errFull", "diaeresis/buffer.errRange"], apart := false, laid := [("diaeresis/buffer.errRange", laid_diaeresis_buffer_errRange), ("diaeresis/buffer.errFull", laid_diaeresis_buffer_errFull)], narrowed := true }
def BufferNoneUptoSaid : Prop := bufferNoneUptoRow.holds Tryd.pinned (OpenSpec.upto bufferNoneSpec)

/-- 'diaeresislaw01.BufferCompacts', WHERE WHAT IT READS IS OF BULK AT MOST 1048576: true; the input reads as it did. -/
def bufferCompactsUptoRow : OpenClaim := { program := "ytflkmdmceeefiaadoor", sum := "11d835709cdf25ba24a2df49741c063fa0dc433240784c40ff04c58356954b6f", func := "diaeresis/diaeresislaw01.BufferCompacts", spec := "bufferCompacts", inPlace := ["internal/reflectlite.TypeOf", "internal/abi.NoEscape"], unfollowed := true, recurses := true, named := ["diaeresis/buffer.errFull", "diaeresis/buffer.errRange"], apart := false, laid := [("diaeresis/buffer.errRange", laid_diaeresis_buffer_errRange), ("diaeresis/buffer.errFull", laid_diaeresis_buffer_errFull)], narrowed := true }
def BufferCompactsUptoSaid : Prop := bufferCompactsUptoRow.holds Tryd.pinned (OpenSpec.upto bufferCompactsSpec)

end Rows
end Go.Proofs.YtflkmdmceeefiaaDoor
