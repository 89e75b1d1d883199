/-
  DERIVED. GIVEN WITH THE SEED: THE CARDS: each row of YtlknoahpliaigaaDoorRows.lean that lists a variable, with what it lists TIED to the program's text (the seventh form; the later family's looks); each row that meets fmt, with fmt's text TOLD by the authors' own Lean function (tested against real Go, not proved from fmt's source: count such statements apart). THE CARD IS WHAT COUNTS. Prove the row's statement (the work); the ties are given (YtlknoahpliaigaaDoorTie.lean); close each card by the builder's one call (the guide's Derived/Test/ToyasCard.lean, 'card_holds'). Laid BY PROGRAM, IN A SANDBOX (cutbox-door.mjs). By AI agents, Wed Nov 11 2026. No macro, syntax, notation, axiom, sorry.
-/
import Derived.Test.YtlknoahpliaigaaDoorRows
import GoSem.ClaimSeven
namespace Go.Proofs.YtlknoahpliaigaaDoor
namespace Rows

/-- THE TIED CARD OF 'carpetbaglaw12.RecordTells'. -/
def recordTellsCard : Claim7 := { stood := { row := recordTellsRow, standIns := [], harness := (true, "e573447623f79025a51c0d86826b5a896b9c32cc8cc196bc4bd2b1a7b98f958f"), looks := false }, kinds := [], alts := [], laidByText := true, laidKinds := [.data, .pinned], laidTests := true, laidLooks := .later }
def RecordTellsCardSaid : Prop := Claim7.holds Tryd.pinned (.plain (OpenSpec.ofChange recordTellsSpec)) recordTellsCard

/-- THE TIED CARD OF 'carpetbaglaw12.RecordReads'. -/
def recordReadsCard : Claim7 := { stood := { row := recordReadsRow, standIns := [], harness := (true, "e573447623f79025a51c0d86826b5a896b9c32cc8cc196bc4bd2b1a7b98f958f"), looks := false }, kinds := [], alts := [], laidByText := true, laidKinds := [.data, .pinned], laidTests := true, laidLooks := .later }
def RecordReadsCardSaid : Prop := Claim7.holds Tryd.pinned (.plain (OpenSpec.ofChange recordReadsSpec)) recordReadsCard

/-- THE TIED CARD OF 'carpetbaglaw12.RecordBack'. -/
def recordBackCard : Claim7 := { stood := { row := recordBackRow, standIns := [], harness := (true, "e573447623f79025a51c0d86826b5a896b9c32cc8cc196bc4bd2b1a7b98f958f"), looks := false }, kinds := [], alts := [], laidByText := true, laidKinds := [.data, .pinned], laidTests := true, laidLooks := .later }
def RecordBackCardSaid : Prop := Claim7.holds Tryd.pinned (.plain (OpenSpec.ofChange recordBackSpec)) recordBackCard

/-- THE TIED CARD OF 'carpetbaglaw12.RecordApart'. -/
def recordApartCard : Claim7 := { stood := { row := recordApartRow, standIns := [], harness := (true, "e573447623f79025a51c0d86826b5a896b9c32cc8cc196bc4bd2b1a7b98f958f"), looks := false }, kinds := [], alts := [], laidByText := true, laidKinds := [.data, .pinned], laidTests := true, laidLooks := .later }
def RecordApartCardSaid : Prop := Claim7.holds Tryd.pinned (.plain (OpenSpec.ofChange recordApartSpec)) recordApartCard

/-- THE TIED CARD OF 'carpetbaglaw12.RecordCut'. -/
def recordCutCard : Claim7 := { stood := { row := recordCutRow, standIns := [], harness := (true, "e573447623f79025a51c0d86826b5a896b9c32cc8cc196bc4bd2b1a7b98f958f"), looks := false }, kinds := [], alts := [], laidByText := true, laidKinds := [.data, .pinned], laidTests := true, laidLooks := .later }
def RecordCutCardSaid : Prop := Claim7.holds Tryd.pinned (.plain (OpenSpec.ofChange recordCutSpec)) recordCutCard

/-- THE TIED CARD OF 'carpetbaglaw12.RecordChunks'. -/
def recordChunksCard : Claim7 := { stood := { row := recordChunksRow, standIns := [], harness := (true, "e573447623f79025a51c0d86826b5a896b9c32cc8cc196bc4bd2b1a7b98f958f"), looks := false }, kinds := [], alts := [], laidByText := true, laidKinds := [.data, .pinned], laidTests := true, laidLooks := .later }
def RecordChunksCardSaid : Prop := Claim7.holds Tryd.pinned (.plain (OpenSpec.ofChange recordChunksSpec)) recordChunksCard

/-- THE TIED CARD OF 'carpetbaglaw12.RecordSize'. -/
def recordSizeCard : Claim7 := { stood := { row := recordSizeRow, standIns := [], harness := (true, "e573447623f79025a51c0d86826b5a896b9c32cc8cc196bc4bd2b1a7b98f958f"), looks := false }, kinds := [], alts := [], laidByText := true, laidKinds := [.data, .pinned], laidTests := true, laidLooks := .later }
def RecordSizeCardSaid : Prop := Claim7.holds Tryd.pinned (.plain (OpenSpec.ofChange recordSizeSpec)) recordSizeCard

/-- THE SECOND FORM's CARD OF 'carpetbaglaw12.RecordTells'. -/
def recordTellsUptoCard : Claim7 := { stood := { row := recordTellsUptoRow, standIns := [], harness := (true, "e573447623f79025a51c0d86826b5a896b9c32cc8cc196bc4bd2b1a7b98f958f"), looks := false }, kinds := [], alts := [], laidByText := true, laidKinds := [.data, .pinned], laidTests := true, laidLooks := .later }
def RecordTellsUptoCardSaid : Prop := Claim7.holds Tryd.pinned (.plain (OpenSpec.upto recordTellsSpec)) recordTellsUptoCard

/-- THE SECOND FORM's CARD OF 'carpetbaglaw12.RecordReads'. -/
def recordReadsUptoCard : Claim7 := { stood := { row := recordReadsUptoRow, standIns := [], harness := (true, "e573447623f79025a51c0d86826b5a896b9c32cc8cc196bc4bd2b1a7b98f958f"), looks := false }, kinds := [], alts := [], laidByText := true, laidKinds := [.data, .pinned], laidTests := true, laidLooks := .later }
def RecordReadsUptoCardSaid : Prop := Claim7.holds Tryd.pinned (.plain (OpenSpec.upto recordReadsSpec)) recordReadsUptoCard

/-- THE SECOND FORM's CARD OF 'carpetbaglaw12.RecordBack'. -/
def recordBackUptoCard : Claim7 := { stood := { row := recordBackUptoRow, standIns := [], harness := (true, "e573447623f79025a51c0d86826b5a896b9c32cc8cc196bc4bd2b1a7b98f958f"), looks := false }, kinds := [], alts := [], laidByText := true, laidKinds := [.data, .pinned], laidTests := true, laidLooks := .later }
def RecordBackUptoCardSaid : Prop := Claim7.holds Tryd.pinned (.plain (OpenSpec.upto recordBackSpec)) recordBackUptoCard

/-- THE SECOND FORM's CARD OF 'carpetbaglaw12.RecordApart'. -/
def recordApartUptoCard : Claim7 := { stood := { row := recordApartUptoRow, standIns := [], harness := (true, "e573447623f79025a51c0d86826b5a896b9c32cc8cc196bc4bd2b1a7b98f958f"), looks := false }, kinds := [], alts := [], laidByText := true, laidKinds := [.data, .pinned], laidTests := true, laidLooks := .later }
def RecordApartUptoCardSaid : Prop := Claim7.holds Tryd.pinned (.plain (OpenSpec.upto recordApartSpec)) recordApartUptoCard

/-- THE SECOND FORM's CARD OF 'carpetbaglaw12.RecordCut'. -/
def recordCutUptoCard : Claim7 := { stood := { row := recordCutUptoRow, standIns := [], harness := (true, "e573447623f79025a51c0d86826b5a896b9c32cc8cc196bc4bd2b1a7b98f958f"), looks := false }, kinds := [], alts := [], laidByText := true, laidKinds := [.data, .pinned], laidTests := true, laidLooks := .later }
def RecordCutUptoCardSaid : Prop := Claim7.holds Tryd.pinned (.plain (OpenSpec.upto recordCutSpec)) recordCutUptoCard

/-- THE SECOND FORM's CARD OF 'carpetbaglaw12.RecordChunks'. -/
def recordChunksUptoCard : Claim7 := { stood := { row := recordChunksUptoRow, standIns := [], harness := (true, "e573447623f79025a51c0d86826b5a896b9c32cc8cc196bc4bd2b1a7b98f958f"), looks := false }, kinds := [], alts := [], laidByText := true, laidKinds := [.data, .pinned], laidTests := true, laidLooks := .later }
def RecordChunksUptoCardSaid : Prop := Claim7.holds Tryd.pinned (.plain (OpenSpec.upto recordChunksSpec)) recordChunksUptoCard

/-- THE SECOND FORM's CARD OF 'carpetbaglaw12.RecordSize'. -/
def recordSizeUptoCard : Claim7 := { stood := { row := recordSizeUptoRow, standIns := [], harness := (true, "e573447623f79025a51c0d86826b5a896b9c32cc8cc196bc4bd2b1a7b98f958f"), looks := false }, kinds := [], alts := [], laidByText := true, laidKinds := [.data, .pinned], laidTests := true, laidLooks := .later }
def RecordSizeUptoCardSaid : Prop := Claim7.holds Tryd.pinned (.plain (OpenSpec.upto recordSizeSpec)) recordSizeUptoCard
end Rows
end Go.Proofs.YtlknoahpliaigaaDoor
