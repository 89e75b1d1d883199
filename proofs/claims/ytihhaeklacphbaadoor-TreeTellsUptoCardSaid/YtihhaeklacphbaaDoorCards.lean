/-
  DERIVED. GIVEN WITH THE SEED: THE CARDS: each row of YtihhaeklacphbaaDoorRows.lean that lists a variable, with what it lists TIED to the program's text (the seventh form; the later family's looks); each row that meets fmt, with fmt's text TOLD by the authors' own Lean function (tested against real Go, not proved from fmt's source: count such statements apart). THE CARD IS WHAT COUNTS. Prove the row's statement (the work); the ties are given (YtihhaeklacphbaaDoorTie.lean); close each card by the builder's one call (the guide's Derived/Test/ToyasCard.lean, 'card_holds'). Laid BY PROGRAM, IN A SANDBOX (cutbox-door.mjs). By AI agents, Wed Nov 11 2026. No macro, syntax, notation, axiom, sorry.
-/
import Derived.Test.YtihhaeklacphbaaDoorRows
import GoSem.ClaimSeven
namespace Go.Proofs.YtihhaeklacphbaaDoor
namespace Rows

/-- THE TIED CARD OF 'carpetbaglaw04.TreeTells'. -/
def treeTellsCard : Claim7 := { stood := { row := treeTellsRow, standIns := [], harness := (true, "164739ad515c37675ea5f8f75a2fdc75a34d8a81ea8784b0d61da229a3e6b948"), looks := false }, kinds := [], alts := [], laidByText := true, laidKinds := [.data, .pinned], laidTests := true, laidLooks := .later }
def TreeTellsCardSaid : Prop := Claim7.holds Tryd.pinned (.plain (OpenSpec.ofChange treeTellsSpec)) treeTellsCard

/-- THE TIED CARD OF 'carpetbaglaw04.TreeKeeps'. -/
def treeKeepsCard : Claim7 := { stood := { row := treeKeepsRow, standIns := [], harness := (true, "164739ad515c37675ea5f8f75a2fdc75a34d8a81ea8784b0d61da229a3e6b948"), looks := false }, kinds := [], alts := [], laidByText := true, laidKinds := [.data, .pinned], laidTests := true, laidLooks := .later }
def TreeKeepsCardSaid : Prop := Claim7.holds Tryd.pinned (.plain (OpenSpec.ofChange treeKeepsSpec)) treeKeepsCard

/-- THE TIED CARD OF 'carpetbaglaw04.TreeOrder'. -/
def treeOrderCard : Claim7 := { stood := { row := treeOrderRow, standIns := [], harness := (true, "164739ad515c37675ea5f8f75a2fdc75a34d8a81ea8784b0d61da229a3e6b948"), looks := false }, kinds := [], alts := [], laidByText := true, laidKinds := [.data, .pinned], laidTests := true, laidLooks := .later }
def TreeOrderCardSaid : Prop := Claim7.holds Tryd.pinned (.plain (OpenSpec.ofChange treeOrderSpec)) treeOrderCard

/-- THE TIED CARD OF 'carpetbaglaw04.TreeAgain'. -/
def treeAgainCard : Claim7 := { stood := { row := treeAgainRow, standIns := [], harness := (true, "164739ad515c37675ea5f8f75a2fdc75a34d8a81ea8784b0d61da229a3e6b948"), looks := false }, kinds := [], alts := [], laidByText := true, laidKinds := [.data, .pinned], laidTests := true, laidLooks := .later }
def TreeAgainCardSaid : Prop := Claim7.holds Tryd.pinned (.plain (OpenSpec.ofChange treeAgainSpec)) treeAgainCard

/-- THE TIED CARD OF 'carpetbaglaw04.TreeEmpties'. -/
def treeEmptiesCard : Claim7 := { stood := { row := treeEmptiesRow, standIns := [], harness := (true, "164739ad515c37675ea5f8f75a2fdc75a34d8a81ea8784b0d61da229a3e6b948"), looks := false }, kinds := [], alts := [], laidByText := true, laidKinds := [.data, .pinned], laidTests := true, laidLooks := .later }
def TreeEmptiesCardSaid : Prop := Claim7.holds Tryd.pinned (.plain (OpenSpec.ofChange treeEmptiesSpec)) treeEmptiesCard

/-- THE TIED CARD OF 'carpetbaglaw04.TreeFull'. -/
def treeFullCard : Claim7 := { stood := { row := treeFullRow, standIns := [], harness := (true, "164739ad515c37675ea5f8f75a2fdc75a34d8a81ea8784b0d61da229a3e6b948"), looks := false }, kinds := [], alts := [], laidByText := true, laidKinds := [.data, .pinned], laidTests := true, laidLooks := .later }
def TreeFullCardSaid : Prop := Claim7.holds Tryd.pinned (.plain (OpenSpec.ofChange treeFullSpec)) treeFullCard

/-- THE TIED CARD OF 'carpetbaglaw04.TreeIn'. -/
def treeInCard : Claim7 := { stood := { row := treeInRow, standIns := [], harness := (true, "164739ad515c37675ea5f8f75a2fdc75a34d8a81ea8784b0d61da229a3e6b948"), looks := false }, kinds := [], alts := [], laidByText := true, laidKinds := [.data, .pinned], laidTests := true, laidLooks := .later }
def TreeInCardSaid : Prop := Claim7.holds Tryd.pinned (.plain (OpenSpec.ofChange treeInSpec)) treeInCard

/-- THE SECOND FORM's CARD OF 'carpetbaglaw04.TreeTells'. -/
def treeTellsUptoCard : Claim7 := { stood := { row := treeTellsUptoRow, standIns := [], harness := (true, "164739ad515c37675ea5f8f75a2fdc75a34d8a81ea8784b0d61da229a3e6b948"), looks := false }, kinds := [], alts := [], laidByText := true, laidKinds := [.data, .pinned], laidTests := true, laidLooks := .later }
def TreeTellsUptoCardSaid : Prop := Claim7.holds Tryd.pinned (.plain (OpenSpec.upto treeTellsSpec)) treeTellsUptoCard

/-- THE SECOND FORM's CARD OF 'carpetbaglaw04.TreeKeeps'. -/
def treeKeepsUptoCard : Claim7 := { stood := { row := treeKeepsUptoRow, standIns := [], harness := (true, "164739ad515c37675ea5f8f75a2fdc75a34d8a81ea8784b0d61da229a3e6b948"), looks := false }, kinds := [], alts := [], laidByText := true, laidKinds := [.data, .pinned], laidTests := true, laidLooks := .later }
def TreeKeepsUptoCardSaid : Prop := Claim7.holds Tryd.pinned (.plain (OpenSpec.upto treeKeepsSpec)) treeKeepsUptoCard

/-- THE SECOND FORM's CARD OF 'carpetbaglaw04.TreeOrder'. -/
def treeOrderUptoCard : Claim7 := { stood := { row := treeOrderUptoRow, standIns := [], harness := (true, "164739ad515c37675ea5f8f75a2fdc75a34d8a81ea8784b0d61da229a3e6b948"), looks := false }, kinds := [], alts := [], laidByText := true, laidKinds := [.data, .pinned], laidTests := true, laidLooks := .later }
def TreeOrderUptoCardSaid : Prop := Claim7.holds Tryd.pinned (.plain (OpenSpec.upto treeOrderSpec)) treeOrderUptoCard

/-- THE SECOND FORM's CARD OF 'carpetbaglaw04.TreeAgain'. -/
def treeAgainUptoCard : Claim7 := { stood := { row := treeAgainUptoRow, standIns := [], harness := (true, "164739ad515c37675ea5f8f75a2fdc75a34d8a81ea8784b0d61da229a3e6b948"), looks := false }, kinds := [], alts := [], laidByText := true, laidKinds := [.data, .pinned], laidTests := true, laidLooks := .later }
def TreeAgainUptoCardSaid : Prop := Claim7.holds Tryd.pinned (.plain (OpenSpec.upto treeAgainSpec)) treeAgainUptoCard

/-- THE SECOND FORM's CARD OF 'carpetbaglaw04.TreeEmpties'. -/
def treeEmptiesUptoCard : Claim7 := { stood := { row := treeEmptiesUptoRow, standIns := [], harness := (true, "164739ad515c37675ea5f8f75a2fdc75a34d8a81ea8784b0d61da229a3e6b948"), looks := false }, kinds := [], alts := [], laidByText := true, laidKinds := [.data, .pinned], laidTests := true, laidLooks := .later }
def TreeEmptiesUptoCardSaid : Prop := Claim7.holds Tryd.pinned (.plain (OpenSpec.upto treeEmptiesSpec)) treeEmptiesUptoCard

/-- THE SECOND FORM's CARD OF 'carpetbaglaw04.TreeFull'. -/
def treeFullUptoCard : Claim7 := { stood := { row := treeFullUptoRow, standIns := [], harness := (true, "164739ad515c37675ea5f8f75a2fdc75a34d8a81ea8784b0d61da229a3e6b948"), looks := false }, kinds := [], alts := [], laidByText := true, laidKinds := [.data, .pinned], laidTests := true, laidLooks := .later }
def TreeFullUptoCardSaid : Prop := Claim7.holds Tryd.pinned (.plain (OpenSpec.upto treeFullSpec)) treeFullUptoCard

/-- THE SECOND FORM's CARD OF 'carpetbaglaw04.TreeIn'. -/
def treeInUptoCard : Claim7 := { stood := { row := treeInUptoRow, standIns := [], harness := (true, "164739ad515c37675ea5f8f75a2fdc75a34d8a81ea8784b0d61da229a3e6b948"), looks := false }, kinds := [], alts := [], laidByText := true, laidKinds := [.data, .pinned], laidTests := true, laidLooks := .later }
def TreeInUptoCardSaid : Prop := Claim7.holds Tryd.pinned (.plain (OpenSpec.upto treeInSpec)) treeInUptoCard
end Rows
end Go.Proofs.YtihhaeklacphbaaDoor
