/-
  NARROWER THAN 'FOR EVERY INPUT', by the rows' own cells (each row's printed sentence says how): ChainAccepts: laid · ChainFollows: laid · ChainStretch: laid · ChainLinks: laid · ChainForks: laid · ChainSeen: laid.
  DERIVED. THE GIVEN ROWS OF THIS SEAT. 6 by the template 'for every input the law returns true; each argument reads behind the call as it read before'; 0 by the template 'total and deterministic' (their statements: YtdoncjpkmjganaaDoorTotals.lean).
  GIVEN WITH THE SEED: the statements are not yours to turn. If you find one false, say at which input.
  Laid BY PROGRAM, IN A SANDBOX (cutbox-rows.mjs): the forced cells as the released guide's own fill.sh prints them over the translation 35869a0b49f4483b… (all of the seat's roots in one cut). By AI agents, Wed Nov 11 2026. No macro, syntax, notation, axiom, sorry.
-/
import Derived.Test.YtdoncjpkmjganaaDoorChecked
import GoSem.PinnedTables
import GoSem.Claim
import GoSem.ClaimJoined
import GoSem.ClaimMapViews
import Derived.JoinedTies
import Derived.KernelRfl
namespace Go.Proofs.YtdoncjpkmjganaaDoor
/- THE CELL 'sum', in the pinned program and in every row, IS THE sha256 OF THE DUMP (.gsa) THAT YtdoncjpkmjganaaDoorProg.lean LOADS. Nothing in Lean hashes anything: it is a label: what it is worth is what the hold of that sum in a sandbox is worth. -/
noncomputable def Tryd.pinned : Pinned := { name := "ytdoncjpkmjganaadoor", sum := "35869a0b49f4483b877cb08c01df4d0f7e9f8b989f59eae754fa0e735ea80e12", checked := Tryd.checked }
namespace Rows
def none {H : Type} : Left H := { results := [], args := [] }

/- WHAT THE LISTED PACKAGE-LEVEL VARIABLES READ AS WHEN THE CALL BEGINS. Each datum BY PROGRAM (the guide's laid-datum.mjs) off the statement by which the dump's own 'gosem.cut.vars' lays the variable. In a bare row this is a premise. The card (YtdoncjpkmjganaaDoorCards.lean) ties it to the program's text. -/
def laid_unicode_utf8_acceptRanges {H : Type} : DataW H := .agg [.agg [.lit (.int .u8 128), .lit (.int .u8 191)], .agg [.lit (.int .u8 160), .lit (.int .u8 191)], .agg [.lit (.int .u8 128), .lit (.int .u8 159)], .agg [.lit (.int .u8 144), .lit (.int .u8 191)], .agg [.lit (.int .u8 128), .lit (.int .u8 143)], .agg [.lit (.int .u8 0), .lit (.int .u8 0)], .agg [.lit (.int .u8 0), .lit (.int .u8 0)], .agg [.lit (.int .u8 0), .lit (.int .u8 0)], .agg [.lit (.int .u8 0), .lit (.int .u8 0)], .agg [.lit (.int .u8 0), .lit (.int .u8 0)], .agg [.lit (.int .u8 0), .lit (.int .u8 0)], .agg [.lit (.int .u8 0), .lit (.int .u8 0)], .agg [.lit (.int .u8 0), .lit (.int .u8 0)], .agg [.lit (.int .u8 0), .lit (.int .u8 0)], .agg [.lit (.int .u8 0), .lit (.int .u8 0)], .agg [.lit (.int .u8 0), .lit (.int .u8 0)]]
/-- One of Go's own tables, pinned by name: the form's constant. -/
def laid_unicode_utf8_first : DataW Unit := Go.Pinned.utf8First

/-- 'carpetbaglaw13.ChainAccepts': WHATEVER THE INPUT: true; the input reads as it did. -/
def chainAcceptsSpec : ChangeSpec := { name := "chainAccepts", fn := fun _ => fun
  | [d1, d2, d3, d4, d5] => { results := [.lit (.bool true)], args := [d1, d2, d3, d4, d5] }
  | _ => none }
def chainAcceptsRow : OpenClaim := { program := "ytdoncjpkmjganaadoor", sum := "35869a0b49f4483b877cb08c01df4d0f7e9f8b989f59eae754fa0e735ea80e12", func := "carpetbag/carpetbaglaw13.ChainAccepts", spec := "chainAccepts", inPlace := ["internal/bytealg.CountString", "internal/bytealg.IndexByteString", "internal/bytealg.IndexString"], unfollowed := true, recurses := true, named := ["unicode/utf8.first", "unicode/utf8.acceptRanges", "internal/bytealg.MaxLen"], apart := false, laid := [("unicode/utf8.acceptRanges", laid_unicode_utf8_acceptRanges), ("unicode/utf8.first", laid_unicode_utf8_first)] }
def ChainAcceptsSaid : Prop := chainAcceptsRow.holds Tryd.pinned (OpenSpec.ofChange chainAcceptsSpec)

/-- ITS FALSE NEIGHBOUR: 'it returns false'. Refute it at one input. -/
def chainAcceptsWrong : ChangeSpec := { name := "chainAccepts", fn := fun _ => fun
  | [d1, d2, d3, d4, d5] => { results := [.lit (.bool false)], args := [d1, d2, d3, d4, d5] }
  | _ => none }
def ChainAcceptsWrongFalsely : Prop := chainAcceptsRow.holds Tryd.pinned (OpenSpec.ofChange chainAcceptsWrong)

/-- 'carpetbaglaw13.ChainFollows': WHATEVER THE INPUT: true; the input reads as it did. -/
def chainFollowsSpec : ChangeSpec := { name := "chainFollows", fn := fun _ => fun
  | [d1, d2, d3, d4, d5, d6, d7] => { results := [.lit (.bool true)], args := [d1, d2, d3, d4, d5, d6, d7] }
  | _ => none }
def chainFollowsRow : OpenClaim := { program := "ytdoncjpkmjganaadoor", sum := "35869a0b49f4483b877cb08c01df4d0f7e9f8b989f59eae754fa0e735ea80e12", func := "carpetbag/carpetbaglaw13.ChainFollows", spec := "chainFollows", inPlace := ["internal/bytealg.CountString", "internal/bytealg.IndexByteString", "internal/bytealg.IndexString"], unfollowed := true, recurses := true, named := ["unicode/utf8.first", "unicode/utf8.acceptRanges", "internal/bytealg.MaxLen"], apart := false, laid := [("unicode/utf8.acceptRanges", laid_unicode_utf8_acceptRanges), ("unicode/utf8.first", laid_unicode_utf8_first)] }
def ChainFollowsSaid : Prop := chainFollowsRow.holds Tryd.pinned (OpenSpec.ofChange chainFollowsSpec)

/-- ITS FALSE NEIGHBOUR: 'it returns false'. Refute it at one input. -/
def chainFollowsWrong : ChangeSpec := { name := "chainFollows", fn := fun _ => fun
  | [d1, d2, d3, d4, d5, d6, d7] => { results := [.lit (.bool false)], args := [d1, d2, d3, d4, d5, d6, d7] }
  | _ => none }
def ChainFollowsWrongFalsely : Prop := chainFollowsRow.holds Tryd.pinned (OpenSpec.ofChange chainFollowsWrong)

/-- 'carpetbaglaw13.ChainStretch': WHATEVER THE INPUT: true; the input reads as it did. -/
def chainStretchSpec : ChangeSpec := { name := "chainStretch", fn := fun _ => fun
  | [d1, d2, d3, d4, d5] => { results := [.lit (.bool true)], args := [d1, d2, d3, d4, d5] }
  | _ => none }
def chainStretchRow : OpenClaim := { program := "ytdoncjpkmjganaadoor", sum := "35869a0b49f4483b877cb08c01df4d0f7e9f8b989f59eae754fa0e735ea80e12", func := "carpetbag/carpetbaglaw13.ChainStretch", spec := "chainStretch", inPlace := ["internal/bytealg.CountString", "internal/bytealg.IndexByteString", "internal/bytealg.IndexString"], unfollowed := true, recurses := true, named := ["unicode/utf8.first", "unicode/utf8.acceptRanges", "internal/bytealg.MaxLen"], apart := false, laid := [("unicode/utf8.acceptRanges", laid_unicode_utf8_acceptRanges), ("unicode/utf8.first", laid_unicode_utf8_first)] }
def ChainStretchSaid : Prop := chainStretchRow.holds Tryd.pinned (OpenSpec.ofChange chainStretchSpec)

/-- ITS FALSE NEIGHBOUR: 'it returns false'. Refute it at one input. -/
def chainStretchWrong : ChangeSpec := { name := "chainStretch", fn := fun _ => fun
  | [d1, d2, d3, d4, d5] => { results := [.lit (.bool false)], args := [d1, d2, d3, d4, d5] }
  | _ => none }
def ChainStretchWrongFalsely : Prop := chainStretchRow.holds Tryd.pinned (OpenSpec.ofChange chainStretchWrong)

/-- 'carpetbaglaw13.ChainLinks': WHATEVER THE INPUT: true; the input reads as it did. -/
def chainLinksSpec : ChangeSpec := { name := "chainLinks", fn := fun _ => fun
  | [d1, d2, d3, d4, d5] => { results := [.lit (.bool true)], args := [d1, d2, d3, d4, d5] }
  | _ => none }
def chainLinksRow : OpenClaim := { program := "ytdoncjpkmjganaadoor", sum := "35869a0b49f4483b877cb08c01df4d0f7e9f8b989f59eae754fa0e735ea80e12", func := "carpetbag/carpetbaglaw13.ChainLinks", spec := "chainLinks", inPlace := ["internal/bytealg.CountString", "internal/bytealg.IndexByteString", "internal/bytealg.IndexString"], unfollowed := true, recurses := true, named := ["unicode/utf8.first", "unicode/utf8.acceptRanges", "internal/bytealg.MaxLen"], apart := false, laid := [("unicode/utf8.acceptRanges", laid_unicode_utf8_acceptRanges), ("unicode/utf8.first", laid_unicode_utf8_first)] }
def ChainLinksSaid : Prop := chainLinksRow.holds Tryd.pinned (OpenSpec.ofChange chainLinksSpec)

/-- ITS FALSE NEIGHBOUR: 'it returns false'. Refute it at one input. -/
def chainLinksWrong : ChangeSpec := { name := "chainLinks", fn := fun _ => fun
  | [d1, d2, d3, d4, d5] => { results := [.lit (.bool false)], args := [d1, d2, d3, d4, d5] }
  | _ => none }
def ChainLinksWrongFalsely : Prop := chainLinksRow.holds Tryd.pinned (OpenSpec.ofChange chainLinksWrong)

/-- 'carpetbaglaw13.ChainForks': WHATEVER THE INPUT: true; the input reads as it did. -/
def chainForksSpec : ChangeSpec := { name := "chainForks", fn := fun _ => fun
  | [d1, d2, d3, d4, d5] => { results := [.lit (.bool true)], args := [d1, d2, d3, d4, d5] }
  | _ => none }
def chainForksRow : OpenClaim := { program := "ytdoncjpkmjganaadoor", sum := "35869a0b49f4483b877cb08c01df4d0f7e9f8b989f59eae754fa0e735ea80e12", func := "carpetbag/carpetbaglaw13.ChainForks", spec := "chainForks", inPlace := ["internal/bytealg.CountString", "internal/bytealg.IndexByteString", "internal/bytealg.IndexString"], unfollowed := true, recurses := true, named := ["unicode/utf8.first", "unicode/utf8.acceptRanges", "internal/bytealg.MaxLen"], apart := false, laid := [("unicode/utf8.acceptRanges", laid_unicode_utf8_acceptRanges), ("unicode/utf8.first", laid_unicode_utf8_first)] }
def ChainForksSaid : Prop := chainForksRow.holds Tryd.pinned (OpenSpec.ofChange chainForksSpec)

/-- ITS FALSE NEIGHBOUR: 'it returns false'. Refute it at one input. -/
def chainForksWrong : ChangeSpec := { name := "chainForks", fn := fun _ => fun
  | [d1, d2, d3, d4, d5] => { results := [.lit (.bool false)], args := [d1, d2, d3, d4, d5] }
  | _ => none }
def ChainForksWrongFalsely : Prop := chainForksRow.holds Tryd.pinned (OpenSpec.ofChange chainForksWrong)

/-- 'carpetbaglaw13.ChainSeen': WHATEVER THE INPUT: true; the input reads as it did. -/
def chainSeenSpec : ChangeSpec := { name := "chainSeen", fn := fun _ => fun
  | [d1, d2, d3, d4, d5] => { results := [.lit (.bool true)], args := [d1, d2, d3, d4, d5] }
  | _ => none }
def chainSeenRow : OpenClaim := { program := "ytdoncjpkmjganaadoor", sum := "35869a0b49f4483b877cb08c01df4d0f7e9f8b989f59eae754fa0e735ea80e12", func := "carpetbag/carpetbaglaw13.ChainSeen", spec := "chainSeen", inPlace := ["internal/bytealg.CountString", "internal/bytealg.IndexByteString", "internal/bytealg.IndexString"], unfollowed := true, recurses := true, named := ["unicode/utf8.first", "unicode/utf8.acceptRanges", "internal/bytealg.MaxLen"], apart := false, laid := [("unicode/utf8.acceptRanges", laid_unicode_utf8_acceptRanges), ("unicode/utf8.first", laid_unicode_utf8_first)] }
def ChainSeenSaid : Prop := chainSeenRow.holds Tryd.pinned (OpenSpec.ofChange chainSeenSpec)

/-- ITS FALSE NEIGHBOUR: 'it returns false'. Refute it at one input. -/
def chainSeenWrong : ChangeSpec := { name := "chainSeen", fn := fun _ => fun
  | [d1, d2, d3, d4, d5] => { results := [.lit (.bool false)], args := [d1, d2, d3, d4, d5] }
  | _ => none }
def ChainSeenWrongFalsely : Prop := chainSeenRow.holds Tryd.pinned (OpenSpec.ofChange chainSeenWrong)

/- THE SECOND FORM. 'bulk': how many values and letters a reading holds, each counted each time it is reached (what is shared counts as often as it is met; a slice's spare places count too). A statement '..UptoSaid' is the law's where the arguments, and the package variables that the reading takes, are together of bulk at most 1048576: NARROWER than '..Said'. Prove '..Said' where nothing that the law and all that it calls make is longer than what came in: it says more and counts as full. Else prove '..UptoSaid'. A law counts once. -/
mutual
def uptoBulk {H : Type} : DataW H → Nat
  | .lit (.string bytes) => bytes.length + 1
  | .lit _ => 1
  | .nil => 1
  | .ptr d => uptoBulk d + 1
  | .slice elems spare => uptoBulkAll elems + uptoBulkAll spare + 1
  | .agg parts => uptoBulkAll parts + 1
  | .iface _ d => uptoBulk d + 1
  | .map entries => uptoBulkEntries entries + 1
  | .held _ => 1
def uptoBulkAll {H : Type} : List (DataW H) → Nat
  | [] => 0
  | d :: r => uptoBulk d + uptoBulkAll r
def uptoBulkEntries {H : Type} : List (Lit × DataW H) → Nat
  | [] => 0
  | x :: r => uptoBulkEntry x + uptoBulkEntries r
def uptoBulkEntry {H : Type} : Lit × DataW H → Nat
  | (.string bytes, d) => bytes.length + uptoBulk d + 1
  | (_, d) => uptoBulk d + 1
 end
def uptoSmall : (H : Type) → List (DataW H) → Bool := fun _ ds => decide (uptoBulkAll ds ≤ 1048576)
def OpenSpec.upto (s : _root_.Go.ChangeSpec) : _root_.Go.OpenSpec := { _root_.Go.OpenSpec.ofChange s with cond := some uptoSmall }

/-- 'carpetbaglaw13.ChainAccepts', WHERE WHAT IT READS IS OF BULK AT MOST 1048576: true; the input reads as it did. -/
def chainAcceptsUptoRow : OpenClaim := { program := "ytdoncjpkmjganaadoor", sum := "35869a0b49f4483b877cb08c01df4d0f7e9f8b989f59eae754fa0e735ea80e12", func := "carpetbag/carpetbaglaw13.ChainAccepts", spec := "chainAccepts", inPlace := ["internal/bytealg.CountString", "internal/bytealg.IndexByteString", "internal/bytealg.IndexString"], unfollowed := true, recurses := true, named := ["unicode/utf8.first", "unicode/utf8.acceptRanges", "internal/bytealg.MaxLen"], apart := false, laid := [("unicode/utf8.acceptRanges", laid_unicode_utf8_acceptRanges), ("unicode/utf8.first", laid_unicode_utf8_first)], narrowed := true }
def ChainAcceptsUptoSaid : Prop := chainAcceptsUptoRow.holds Tryd.pinned (OpenSpec.upto chainAcceptsSpec)

/-- 'carpetbaglaw13.ChainFollows', WHERE WHAT IT READS IS OF BULK AT MOST 1048576: true; the input reads as it did. -/
def chainFollowsUptoRow : OpenClaim := { program := "ytdoncjpkmjganaadoor", sum := "35869a0b49f4483b877cb08c01df4d0f7e9f8b989f59eae754fa0e735ea80e12", func := "carpetbag/carpetbaglaw13.ChainFollows", spec := "chainFollows", inPlace := ["internal/bytealg.CountString", "internal/bytealg.IndexByteString", "internal/bytealg.IndexString"], unfollowed := true, recurses := true, named := ["unicode/utf8.first", "unicode/utf8.acceptRanges", "internal/bytealg.MaxLen"], apart := false, laid := [("unicode/utf8.acceptRanges", laid_unicode_utf8_acceptRanges), ("unicode/utf8.first", laid_unicode_utf8_first)], narrowed := true }
def ChainFollowsUptoSaid : Prop := chainFollowsUptoRow.holds Tryd.pinned (OpenSpec.upto chainFollowsSpec)

/-- 'carpetbaglaw13.ChainStretch', WHERE WHAT IT READS IS OF BULK AT MOST 1048576: true; the input reads as it did. -/
def chainStretchUptoRow : OpenClaim := { program := "ytdoncjpkmjganaadoor", sum := "35869a0b49f4483b877cb08c01df4d0f7e9f8b989f59eae754fa0e735ea80e12", func := "carpetbag/carpetbaglaw13.ChainStretch", spec := "chainStretch", inPlace := ["internal/bytealg.CountString", "internal/bytealg.IndexByteString", "internal/bytealg.IndexString"], unfollowed := true, recurses := true, named := ["unicode/utf8.first", "unicode/utf8.acceptRanges", "internal/bytealg.MaxLen"], apart := false, laid := [("unicode/utf8.acceptRanges", laid_unicode_utf8_acceptRanges), ("unicode/utf8.first", laid_unicode_utf8_first)], narrowed := true }
def ChainStretchUptoSaid : Prop := chainStretchUptoRow.holds Tryd.pinned (OpenSpec.upto chainStretchSpec)

/-- 'carpetbaglaw13.ChainLinks', WHERE WHAT IT READS IS OF BULK AT MOST 1048576: true; the input reads as it did. -/
def chainLinksUptoRow : OpenClaim := { program := "ytdoncjpkmjganaadoor", sum := "35869a0b49f4483b877cb08c01df4d0f7e9f8b989f59eae754fa0e735ea80e12", func := "carpetbag/carpetbaglaw13.ChainLinks", spec := "chainLinks", inPlace := ["internal/bytealg.CountString", "internal/bytealg.IndexByteString", "internal/bytealg.IndexString"], unfollowed := true, recurses := true, named := ["unicode/utf8.first", "unicode/utf8.acceptRanges", "internal/bytealg.MaxLen"], apart := false, laid := [("unicode/utf8.acceptRanges", laid_unicode_utf8_acceptRanges), ("unicode/utf8.first", laid_unicode_utf8_first)], narrowed := true }
def ChainLinksUptoSaid : Prop := chainLinksUptoRow.holds Tryd.pinned (OpenSpec.upto chainLinksSpec)

/-- 'carpetbaglaw13.ChainForks', WHERE WHAT IT READS IS OF BULK AT MOST 1048576: true; the input reads as it did. -/
def chainForksUptoRow : OpenClaim := { program := "ytdoncjpkmjganaadoor", sum := "35869a0b49f4483b877cb08c01df4d0f7e9f8b989f59eae754fa0e735ea80e12", func := "carpetbag/carpetbaglaw13.ChainForks", spec := "chainForks", inPlace := ["internal/bytealg.CountString", "internal/bytealg.IndexByteString", "internal/bytealg.IndexString"], unfollowed := true, recurses := true, named := ["unicode/utf8.first", "unicode/utf8.acceptRanges", "internal/bytealg.MaxLen"], apart := false, laid := [("unicode/utf8.acceptRanges", laid_unicode_utf8_acceptRanges), ("unicode/utf8.first", laid_unicode_utf8_first)], narrowed := true }
def ChainForksUptoSaid : Prop := chainForksUptoRow.holds Tryd.pinned (OpenSpec.upto chainForksSpec)

/-- 'carpetbaglaw13.ChainSeen', WHERE WHAT IT READS IS OF BULK AT MOST 1048576: true; the input reads as it did. -/
def chainSeenUptoRow : OpenClaim := { program := "ytdoncjpkmjganaadoor", sum := "35869a0b49f4483b877cb08c01df4d0f7e9f8b989f59eae754fa0e735ea80e12", func := "carpetbag/carpetbaglaw13.ChainSeen", spec := "chainSeen", inPlace := ["internal/bytealg.CountString", "internal/bytealg.IndexByteString", "internal/bytealg.IndexString"], unfollowed := true, recurses := true, named := ["unicode/utf8.first", "unicode/utf8.acceptRanges", "internal/bytealg.MaxLen"], apart := false, laid := [("unicode/utf8.acceptRanges", laid_unicode_utf8_acceptRanges), ("unicode/utf8.first", laid_unicode_utf8_first)], narrowed := true }
def ChainSeenUptoSaid : Prop := chainSeenUptoRow.holds Tryd.pinned (OpenSpec.upto chainSeenSpec)

end Rows
end Go.Proofs.YtdoncjpkmjganaaDoor
