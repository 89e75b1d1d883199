/-
  DERIVED. GIVEN WITH THE SEED: THE CARDS: each row of YtdoncjpkmjganaaDoorRows.lean that lists a variable, with what it lists TIED to the program's text (the seventh form; the later family's looks); each row that meets fmt, with fmt's text TOLD by the authors' own Lean function (tested against real Go, not proved from fmt's source: count such statements apart). THE CARD IS WHAT COUNTS. Prove the row's statement (the work); the ties are given (YtdoncjpkmjganaaDoorTie.lean); close each card by the builder's one call (the guide's Derived/Test/ToyasCard.lean, 'card_holds'). Laid BY PROGRAM, IN A SANDBOX (cutbox-door.mjs). By AI agents, Wed Nov 11 2026. No macro, syntax, notation, axiom, sorry.
-/
import Derived.Test.YtdoncjpkmjganaaDoorRows
import GoSem.ClaimSeven
namespace Go.Proofs.YtdoncjpkmjganaaDoor
namespace Rows

/-- THE TIED CARD OF 'carpetbaglaw13.ChainAccepts'. -/
def chainAcceptsCard : Claim7 := { stood := { row := chainAcceptsRow, standIns := [], harness := (true, "bea993087bd0a8cfba50c860c51835921055de0aabb4f88cccb780db8a1fd1df"), looks := false }, kinds := [], alts := [], laidByText := true, laidKinds := [.data, .pinned], laidTests := true, laidLooks := .later }
def ChainAcceptsCardSaid : Prop := Claim7.holds Tryd.pinned (.plain (OpenSpec.ofChange chainAcceptsSpec)) chainAcceptsCard

/-- THE TIED CARD OF 'carpetbaglaw13.ChainFollows'. -/
def chainFollowsCard : Claim7 := { stood := { row := chainFollowsRow, standIns := [], harness := (true, "bea993087bd0a8cfba50c860c51835921055de0aabb4f88cccb780db8a1fd1df"), looks := false }, kinds := [], alts := [], laidByText := true, laidKinds := [.data, .pinned], laidTests := true, laidLooks := .later }
def ChainFollowsCardSaid : Prop := Claim7.holds Tryd.pinned (.plain (OpenSpec.ofChange chainFollowsSpec)) chainFollowsCard

/-- THE TIED CARD OF 'carpetbaglaw13.ChainStretch'. -/
def chainStretchCard : Claim7 := { stood := { row := chainStretchRow, standIns := [], harness := (true, "bea993087bd0a8cfba50c860c51835921055de0aabb4f88cccb780db8a1fd1df"), looks := false }, kinds := [], alts := [], laidByText := true, laidKinds := [.data, .pinned], laidTests := true, laidLooks := .later }
def ChainStretchCardSaid : Prop := Claim7.holds Tryd.pinned (.plain (OpenSpec.ofChange chainStretchSpec)) chainStretchCard

/-- THE TIED CARD OF 'carpetbaglaw13.ChainLinks'. -/
def chainLinksCard : Claim7 := { stood := { row := chainLinksRow, standIns := [], harness := (true, "bea993087bd0a8cfba50c860c51835921055de0aabb4f88cccb780db8a1fd1df"), looks := false }, kinds := [], alts := [], laidByText := true, laidKinds := [.data, .pinned], laidTests := true, laidLooks := .later }
def ChainLinksCardSaid : Prop := Claim7.holds Tryd.pinned (.plain (OpenSpec.ofChange chainLinksSpec)) chainLinksCard

/-- THE TIED CARD OF 'carpetbaglaw13.ChainForks'. -/
def chainForksCard : Claim7 := { stood := { row := chainForksRow, standIns := [], harness := (true, "bea993087bd0a8cfba50c860c51835921055de0aabb4f88cccb780db8a1fd1df"), looks := false }, kinds := [], alts := [], laidByText := true, laidKinds := [.data, .pinned], laidTests := true, laidLooks := .later }
def ChainForksCardSaid : Prop := Claim7.holds Tryd.pinned (.plain (OpenSpec.ofChange chainForksSpec)) chainForksCard

/-- THE TIED CARD OF 'carpetbaglaw13.ChainSeen'. -/
def chainSeenCard : Claim7 := { stood := { row := chainSeenRow, standIns := [], harness := (true, "bea993087bd0a8cfba50c860c51835921055de0aabb4f88cccb780db8a1fd1df"), looks := false }, kinds := [], alts := [], laidByText := true, laidKinds := [.data, .pinned], laidTests := true, laidLooks := .later }
def ChainSeenCardSaid : Prop := Claim7.holds Tryd.pinned (.plain (OpenSpec.ofChange chainSeenSpec)) chainSeenCard

/-- THE SECOND FORM's CARD OF 'carpetbaglaw13.ChainAccepts'. -/
def chainAcceptsUptoCard : Claim7 := { stood := { row := chainAcceptsUptoRow, standIns := [], harness := (true, "bea993087bd0a8cfba50c860c51835921055de0aabb4f88cccb780db8a1fd1df"), looks := false }, kinds := [], alts := [], laidByText := true, laidKinds := [.data, .pinned], laidTests := true, laidLooks := .later }
def ChainAcceptsUptoCardSaid : Prop := Claim7.holds Tryd.pinned (.plain (OpenSpec.upto chainAcceptsSpec)) chainAcceptsUptoCard

/-- THE SECOND FORM's CARD OF 'carpetbaglaw13.ChainFollows'. -/
def chainFollowsUptoCard : Claim7 := { stood := { row := chainFollowsUptoRow, standIns := [], harness := (true, "bea993087bd0a8cfba50c860c51835921055de0aabb4f88cccb780db8a1fd1df"), looks := false }, kinds := [], alts := [], laidByText := true, laidKinds := [.data, .pinned], laidTests := true, laidLooks := .later }
def ChainFollowsUptoCardSaid : Prop := Claim7.holds Tryd.pinned (.plain (OpenSpec.upto chainFollowsSpec)) chainFollowsUptoCard

/-- THE SECOND FORM's CARD OF 'carpetbaglaw13.ChainStretch'. -/
def chainStretchUptoCard : Claim7 := { stood := { row := chainStretchUptoRow, standIns := [], harness := (true, "bea993087bd0a8cfba50c860c51835921055de0aabb4f88cccb780db8a1fd1df"), looks := false }, kinds := [], alts := [], laidByText := true, laidKinds := [.data, .pinned], laidTests := true, laidLooks := .later }
def ChainStretchUptoCardSaid : Prop := Claim7.holds Tryd.pinned (.plain (OpenSpec.upto chainStretchSpec)) chainStretchUptoCard

/-- THE SECOND FORM's CARD OF 'carpetbaglaw13.ChainLinks'. -/
def chainLinksUptoCard : Claim7 := { stood := { row := chainLinksUptoRow, standIns := [], harness := (true, "bea993087bd0a8cfba50c860c51835921055de0aabb4f88cccb780db8a1fd1df"), looks := false }, kinds := [], alts := [], laidByText := true, laidKinds := [.data, .pinned], laidTests := true, laidLooks := .later }
def ChainLinksUptoCardSaid : Prop := Claim7.holds Tryd.pinned (.plain (OpenSpec.upto chainLinksSpec)) chainLinksUptoCard

/-- THE SECOND FORM's CARD OF 'carpetbaglaw13.ChainForks'. -/
def chainForksUptoCard : Claim7 := { stood := { row := chainForksUptoRow, standIns := [], harness := (true, "bea993087bd0a8cfba50c860c51835921055de0aabb4f88cccb780db8a1fd1df"), looks := false }, kinds := [], alts := [], laidByText := true, laidKinds := [.data, .pinned], laidTests := true, laidLooks := .later }
def ChainForksUptoCardSaid : Prop := Claim7.holds Tryd.pinned (.plain (OpenSpec.upto chainForksSpec)) chainForksUptoCard

/-- THE SECOND FORM's CARD OF 'carpetbaglaw13.ChainSeen'. -/
def chainSeenUptoCard : Claim7 := { stood := { row := chainSeenUptoRow, standIns := [], harness := (true, "bea993087bd0a8cfba50c860c51835921055de0aabb4f88cccb780db8a1fd1df"), looks := false }, kinds := [], alts := [], laidByText := true, laidKinds := [.data, .pinned], laidTests := true, laidLooks := .later }
def ChainSeenUptoCardSaid : Prop := Claim7.holds Tryd.pinned (.plain (OpenSpec.upto chainSeenSpec)) chainSeenUptoCard
end Rows
end Go.Proofs.YtdoncjpkmjganaaDoor
