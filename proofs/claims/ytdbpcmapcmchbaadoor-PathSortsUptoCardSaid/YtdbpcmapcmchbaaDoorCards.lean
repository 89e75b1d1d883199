/-
  DERIVED. GIVEN WITH THE SEED: THE CARDS: each row of YtdbpcmapcmchbaaDoorRows.lean that lists a variable, with what it lists TIED to the program's text (the seventh form; the later family's looks); each row that meets fmt, with fmt's text TOLD by the authors' own Lean function (tested against real Go, not proved from fmt's source: count such statements apart). THE CARD IS WHAT COUNTS. Prove the row's statement (the work); the ties are given (YtdbpcmapcmchbaaDoorTie.lean); close each card by the builder's one call (the guide's Derived/Test/ToyasCard.lean, 'card_holds'). Laid BY PROGRAM, IN A SANDBOX (cutbox-door.mjs). By AI agents, Wed Nov 11 2026. No macro, syntax, notation, axiom, sorry.
-/
import Derived.Test.YtdbpcmapcmchbaaDoorRows
import GoSem.ClaimSeven
namespace Go.Proofs.YtdbpcmapcmchbaaDoor
namespace Rows

/-- THE TIED CARD OF 'carpetbaglaw03.PathTells'. -/
def pathTellsCard : Claim7 := { stood := { row := pathTellsRow, standIns := [], harness := (true, "91dd83df3ff88aeff6e63f675112c26e54026a76ad0dd7512639d6d9e4446d0f"), looks := false }, kinds := [], alts := [], laidByText := true, laidKinds := [.data, .pinned], laidTests := true, laidLooks := .later }
def PathTellsCardSaid : Prop := Claim7.holds Tryd.pinned (.plain (OpenSpec.ofChange pathTellsSpec)) pathTellsCard

/-- THE TIED CARD OF 'carpetbaglaw03.PathUnder'. -/
def pathUnderCard : Claim7 := { stood := { row := pathUnderRow, standIns := [], harness := (true, "91dd83df3ff88aeff6e63f675112c26e54026a76ad0dd7512639d6d9e4446d0f"), looks := false }, kinds := [], alts := [], laidByText := true, laidKinds := [.data, .pinned], laidTests := true, laidLooks := .later }
def PathUnderCardSaid : Prop := Claim7.holds Tryd.pinned (.plain (OpenSpec.ofChange pathUnderSpec)) pathUnderCard

/-- THE TIED CARD OF 'carpetbaglaw03.PathBack'. -/
def pathBackCard : Claim7 := { stood := { row := pathBackRow, standIns := [], harness := (true, "91dd83df3ff88aeff6e63f675112c26e54026a76ad0dd7512639d6d9e4446d0f"), looks := false }, kinds := [], alts := [], laidByText := true, laidKinds := [.data, .pinned], laidTests := true, laidLooks := .later }
def PathBackCardSaid : Prop := Claim7.holds Tryd.pinned (.plain (OpenSpec.ofChange pathBackSpec)) pathBackCard

/-- THE TIED CARD OF 'carpetbaglaw03.PathOrder'. -/
def pathOrderCard : Claim7 := { stood := { row := pathOrderRow, standIns := [], harness := (true, "91dd83df3ff88aeff6e63f675112c26e54026a76ad0dd7512639d6d9e4446d0f"), looks := false }, kinds := [], alts := [], laidByText := true, laidKinds := [.data, .pinned], laidTests := true, laidLooks := .later }
def PathOrderCardSaid : Prop := Claim7.holds Tryd.pinned (.plain (OpenSpec.ofChange pathOrderSpec)) pathOrderCard

/-- THE TIED CARD OF 'carpetbaglaw03.PathParents'. -/
def pathParentsCard : Claim7 := { stood := { row := pathParentsRow, standIns := [], harness := (true, "91dd83df3ff88aeff6e63f675112c26e54026a76ad0dd7512639d6d9e4446d0f"), looks := false }, kinds := [], alts := [], laidByText := true, laidKinds := [.data, .pinned], laidTests := true, laidLooks := .later }
def PathParentsCardSaid : Prop := Claim7.holds Tryd.pinned (.plain (OpenSpec.ofChange pathParentsSpec)) pathParentsCard

/-- THE TIED CARD OF 'carpetbaglaw03.PathSorts'. -/
def pathSortsCard : Claim7 := { stood := { row := pathSortsRow, standIns := [], harness := (true, "91dd83df3ff88aeff6e63f675112c26e54026a76ad0dd7512639d6d9e4446d0f"), looks := false }, kinds := [], alts := [], laidByText := true, laidKinds := [.data, .pinned], laidTests := true, laidLooks := .later }
def PathSortsCardSaid : Prop := Claim7.holds Tryd.pinned (.plain (OpenSpec.ofChange pathSortsSpec)) pathSortsCard

/-- THE TIED CARD OF 'carpetbaglaw03.PathBytes'. -/
def pathBytesCard : Claim7 := { stood := { row := pathBytesRow, standIns := [], harness := (true, "91dd83df3ff88aeff6e63f675112c26e54026a76ad0dd7512639d6d9e4446d0f"), looks := false }, kinds := [], alts := [], laidByText := true, laidKinds := [.data, .pinned], laidTests := true, laidLooks := .later }
def PathBytesCardSaid : Prop := Claim7.holds Tryd.pinned (.plain (OpenSpec.ofChange pathBytesSpec)) pathBytesCard

/-- THE SECOND FORM's CARD OF 'carpetbaglaw03.PathTells'. -/
def pathTellsUptoCard : Claim7 := { stood := { row := pathTellsUptoRow, standIns := [], harness := (true, "91dd83df3ff88aeff6e63f675112c26e54026a76ad0dd7512639d6d9e4446d0f"), looks := false }, kinds := [], alts := [], laidByText := true, laidKinds := [.data, .pinned], laidTests := true, laidLooks := .later }
def PathTellsUptoCardSaid : Prop := Claim7.holds Tryd.pinned (.plain (OpenSpec.upto pathTellsSpec)) pathTellsUptoCard

/-- THE SECOND FORM's CARD OF 'carpetbaglaw03.PathUnder'. -/
def pathUnderUptoCard : Claim7 := { stood := { row := pathUnderUptoRow, standIns := [], harness := (true, "91dd83df3ff88aeff6e63f675112c26e54026a76ad0dd7512639d6d9e4446d0f"), looks := false }, kinds := [], alts := [], laidByText := true, laidKinds := [.data, .pinned], laidTests := true, laidLooks := .later }
def PathUnderUptoCardSaid : Prop := Claim7.holds Tryd.pinned (.plain (OpenSpec.upto pathUnderSpec)) pathUnderUptoCard

/-- THE SECOND FORM's CARD OF 'carpetbaglaw03.PathBack'. -/
def pathBackUptoCard : Claim7 := { stood := { row := pathBackUptoRow, standIns := [], harness := (true, "91dd83df3ff88aeff6e63f675112c26e54026a76ad0dd7512639d6d9e4446d0f"), looks := false }, kinds := [], alts := [], laidByText := true, laidKinds := [.data, .pinned], laidTests := true, laidLooks := .later }
def PathBackUptoCardSaid : Prop := Claim7.holds Tryd.pinned (.plain (OpenSpec.upto pathBackSpec)) pathBackUptoCard

/-- THE SECOND FORM's CARD OF 'carpetbaglaw03.PathOrder'. -/
def pathOrderUptoCard : Claim7 := { stood := { row := pathOrderUptoRow, standIns := [], harness := (true, "91dd83df3ff88aeff6e63f675112c26e54026a76ad0dd7512639d6d9e4446d0f"), looks := false }, kinds := [], alts := [], laidByText := true, laidKinds := [.data, .pinned], laidTests := true, laidLooks := .later }
def PathOrderUptoCardSaid : Prop := Claim7.holds Tryd.pinned (.plain (OpenSpec.upto pathOrderSpec)) pathOrderUptoCard

/-- THE SECOND FORM's CARD OF 'carpetbaglaw03.PathParents'. -/
def pathParentsUptoCard : Claim7 := { stood := { row := pathParentsUptoRow, standIns := [], harness := (true, "91dd83df3ff88aeff6e63f675112c26e54026a76ad0dd7512639d6d9e4446d0f"), looks := false }, kinds := [], alts := [], laidByText := true, laidKinds := [.data, .pinned], laidTests := true, laidLooks := .later }
def PathParentsUptoCardSaid : Prop := Claim7.holds Tryd.pinned (.plain (OpenSpec.upto pathParentsSpec)) pathParentsUptoCard

/-- THE SECOND FORM's CARD OF 'carpetbaglaw03.PathSorts'. -/
def pathSortsUptoCard : Claim7 := { stood := { row := pathSortsUptoRow, standIns := [], harness := (true, "91dd83df3ff88aeff6e63f675112c26e54026a76ad0dd7512639d6d9e4446d0f"), looks := false }, kinds := [], alts := [], laidByText := true, laidKinds := [.data, .pinned], laidTests := true, laidLooks := .later }
def PathSortsUptoCardSaid : Prop := Claim7.holds Tryd.pinned (.plain (OpenSpec.upto pathSortsSpec)) pathSortsUptoCard

/-- THE SECOND FORM's CARD OF 'carpetbaglaw03.PathBytes'. -/
def pathBytesUptoCard : Claim7 := { stood := { row := pathBytesUptoRow, standIns := [], harness := (true, "91dd83df3ff88aeff6e63f675112c26e54026a76ad0dd7512639d6d9e4446d0f"), looks := false }, kinds := [], alts := [], laidByText := true, laidKinds := [.data, .pinned], laidTests := true, laidLooks := .later }
def PathBytesUptoCardSaid : Prop := Claim7.holds Tryd.pinned (.plain (OpenSpec.upto pathBytesSpec)) pathBytesUptoCard
end Rows
end Go.Proofs.YtdbpcmapcmchbaaDoor
