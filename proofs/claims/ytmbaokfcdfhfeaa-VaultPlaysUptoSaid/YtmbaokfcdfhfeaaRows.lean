/-
  No cell of these rows narrows 'for every input' (looked for: loops, veiled, ifaces, maps, wideKeys, modest, calm, conditions, laid).
  DERIVED. THE GIVEN ROWS OF THIS SEAT. 7 by the template 'for every input the law returns true; each argument reads behind the call as it read before'; 0 by the template 'total and deterministic' (their statements: YtmbaokfcdfhfeaaTotals.lean).
  GIVEN WITH THE SEED: the statements are not yours to turn. If you find one false, say at which input.
  Laid BY PROGRAM, IN A SANDBOX (cutbox-rows.mjs): the forced cells as the released guide's own fill.sh prints them over the translation 4db5baca87d17395… (all of the seat's roots in one cut). By AI agents, Wed Nov 11 2026. No macro, syntax, notation, axiom, sorry.
-/
import Derived.Test.YtmbaokfcdfhfeaaChecked
import GoSem.Claim
import GoSem.ClaimJoined
import GoSem.ClaimMapViews
import Derived.JoinedTies
import Derived.KernelRfl
namespace Go.Proofs.Ytmbaokfcdfhfeaa
/- THE CELL 'sum', in the pinned program and in every row, IS THE sha256 OF THE DUMP (.gsa) THAT YtmbaokfcdfhfeaaProg.lean LOADS. Nothing in Lean hashes anything: it is a label: what it is worth is what the hold of that sum in a sandbox is worth. -/
noncomputable def Try.pinned : Pinned := { name := "ytmbaokfcdfhfeaa", sum := "4db5baca87d173956d07a03c8259223683b703eddabd203c03157d1b4883fd22", checked := Try.checked }
namespace Rows
def none {H : Type} : Left H := { results := [], args := [] }

/-- 'carpetbaglaw07.VaultPlays': WHATEVER THE INPUT: true; the input reads as it did. -/
def vaultPlaysSpec : ChangeSpec := { name := "vaultPlays", fn := fun _ => fun
  | [d] => { results := [.lit (.bool true)], args := [d] }
  | _ => none }
def vaultPlaysRow : OpenClaim := { program := "ytmbaokfcdfhfeaa", sum := "4db5baca87d173956d07a03c8259223683b703eddabd203c03157d1b4883fd22", func := "carpetbag/carpetbaglaw07.VaultPlays", spec := "vaultPlays", unfollowed := true, recurses := true, plainKeys := false, apart := false }
def VaultPlaysSaid : Prop := vaultPlaysRow.holds Try.pinned (OpenSpec.ofChange vaultPlaysSpec)

/-- ITS FALSE NEIGHBOUR: 'it returns false'. Refute it at one input. -/
def vaultPlaysWrong : ChangeSpec := { name := "vaultPlays", fn := fun _ => fun
  | [d] => { results := [.lit (.bool false)], args := [d] }
  | _ => none }
def VaultPlaysWrongFalsely : Prop := vaultPlaysRow.holds Try.pinned (OpenSpec.ofChange vaultPlaysWrong)

/-- 'carpetbaglaw07.VaultOpens': WHATEVER THE INPUT: true; the input reads as it did. -/
def vaultOpensSpec : ChangeSpec := { name := "vaultOpens", fn := fun _ => fun
  | [d1, d2, d3] => { results := [.lit (.bool true)], args := [d1, d2, d3] }
  | _ => none }
def vaultOpensRow : OpenClaim := { program := "ytmbaokfcdfhfeaa", sum := "4db5baca87d173956d07a03c8259223683b703eddabd203c03157d1b4883fd22", func := "carpetbag/carpetbaglaw07.VaultOpens", spec := "vaultOpens", unfollowed := true, recurses := true, plainKeys := false, apart := false }
def VaultOpensSaid : Prop := vaultOpensRow.holds Try.pinned (OpenSpec.ofChange vaultOpensSpec)

/-- ITS FALSE NEIGHBOUR: 'it returns false'. Refute it at one input. -/
def vaultOpensWrong : ChangeSpec := { name := "vaultOpens", fn := fun _ => fun
  | [d1, d2, d3] => { results := [.lit (.bool false)], args := [d1, d2, d3] }
  | _ => none }
def VaultOpensWrongFalsely : Prop := vaultOpensRow.holds Try.pinned (OpenSpec.ofChange vaultOpensWrong)

/-- 'carpetbaglaw07.VaultBlind': WHATEVER THE INPUT: true; the input reads as it did. -/
def vaultBlindSpec : ChangeSpec := { name := "vaultBlind", fn := fun _ => fun
  | [d1, d2, d3] => { results := [.lit (.bool true)], args := [d1, d2, d3] }
  | _ => none }
def vaultBlindRow : OpenClaim := { program := "ytmbaokfcdfhfeaa", sum := "4db5baca87d173956d07a03c8259223683b703eddabd203c03157d1b4883fd22", func := "carpetbag/carpetbaglaw07.VaultBlind", spec := "vaultBlind", unfollowed := true, recurses := true, plainKeys := false, apart := false }
def VaultBlindSaid : Prop := vaultBlindRow.holds Try.pinned (OpenSpec.ofChange vaultBlindSpec)

/-- ITS FALSE NEIGHBOUR: 'it returns false'. Refute it at one input. -/
def vaultBlindWrong : ChangeSpec := { name := "vaultBlind", fn := fun _ => fun
  | [d1, d2, d3] => { results := [.lit (.bool false)], args := [d1, d2, d3] }
  | _ => none }
def VaultBlindWrongFalsely : Prop := vaultBlindRow.holds Try.pinned (OpenSpec.ofChange vaultBlindWrong)

/-- 'carpetbaglaw07.VaultNames': WHATEVER THE INPUT: true; the input reads as it did. -/
def vaultNamesSpec : ChangeSpec := { name := "vaultNames", fn := fun _ => fun
  | [d1, d2, d3] => { results := [.lit (.bool true)], args := [d1, d2, d3] }
  | _ => none }
def vaultNamesRow : OpenClaim := { program := "ytmbaokfcdfhfeaa", sum := "4db5baca87d173956d07a03c8259223683b703eddabd203c03157d1b4883fd22", func := "carpetbag/carpetbaglaw07.VaultNames", spec := "vaultNames", unfollowed := true, recurses := true, plainKeys := false, apart := false }
def VaultNamesSaid : Prop := vaultNamesRow.holds Try.pinned (OpenSpec.ofChange vaultNamesSpec)

/-- ITS FALSE NEIGHBOUR: 'it returns false'. Refute it at one input. -/
def vaultNamesWrong : ChangeSpec := { name := "vaultNames", fn := fun _ => fun
  | [d1, d2, d3] => { results := [.lit (.bool false)], args := [d1, d2, d3] }
  | _ => none }
def VaultNamesWrongFalsely : Prop := vaultNamesRow.holds Try.pinned (OpenSpec.ofChange vaultNamesWrong)

/-- 'carpetbaglaw07.VaultKeeps': WHATEVER THE INPUT: true; the input reads as it did. -/
def vaultKeepsSpec : ChangeSpec := { name := "vaultKeeps", fn := fun _ => fun
  | [d1, d2] => { results := [.lit (.bool true)], args := [d1, d2] }
  | _ => none }
def vaultKeepsRow : OpenClaim := { program := "ytmbaokfcdfhfeaa", sum := "4db5baca87d173956d07a03c8259223683b703eddabd203c03157d1b4883fd22", func := "carpetbag/carpetbaglaw07.VaultKeeps", spec := "vaultKeeps", unfollowed := true, recurses := true, plainKeys := false, apart := false }
def VaultKeepsSaid : Prop := vaultKeepsRow.holds Try.pinned (OpenSpec.ofChange vaultKeepsSpec)

/-- ITS FALSE NEIGHBOUR: 'it returns false'. Refute it at one input. -/
def vaultKeepsWrong : ChangeSpec := { name := "vaultKeeps", fn := fun _ => fun
  | [d1, d2] => { results := [.lit (.bool false)], args := [d1, d2] }
  | _ => none }
def VaultKeepsWrongFalsely : Prop := vaultKeepsRow.holds Try.pinned (OpenSpec.ofChange vaultKeepsWrong)

/-- 'carpetbaglaw07.VaultDraws': WHATEVER THE INPUT: true; the input reads as it did. -/
def vaultDrawsSpec : ChangeSpec := { name := "vaultDraws", fn := fun _ => fun
  | [d1, d2] => { results := [.lit (.bool true)], args := [d1, d2] }
  | _ => none }
def vaultDrawsRow : OpenClaim := { program := "ytmbaokfcdfhfeaa", sum := "4db5baca87d173956d07a03c8259223683b703eddabd203c03157d1b4883fd22", func := "carpetbag/carpetbaglaw07.VaultDraws", spec := "vaultDraws", unfollowed := true, recurses := true, plainKeys := false, apart := false }
def VaultDrawsSaid : Prop := vaultDrawsRow.holds Try.pinned (OpenSpec.ofChange vaultDrawsSpec)

/-- ITS FALSE NEIGHBOUR: 'it returns false'. Refute it at one input. -/
def vaultDrawsWrong : ChangeSpec := { name := "vaultDraws", fn := fun _ => fun
  | [d1, d2] => { results := [.lit (.bool false)], args := [d1, d2] }
  | _ => none }
def VaultDrawsWrongFalsely : Prop := vaultDrawsRow.holds Try.pinned (OpenSpec.ofChange vaultDrawsWrong)

/-- 'carpetbaglaw07.VaultTwice': WHATEVER THE INPUT: true; the input reads as it did. -/
def vaultTwiceSpec : ChangeSpec := { name := "vaultTwice", fn := fun _ => fun
  | [d1, d2] => { results := [.lit (.bool true)], args := [d1, d2] }
  | _ => none }
def vaultTwiceRow : OpenClaim := { program := "ytmbaokfcdfhfeaa", sum := "4db5baca87d173956d07a03c8259223683b703eddabd203c03157d1b4883fd22", func := "carpetbag/carpetbaglaw07.VaultTwice", spec := "vaultTwice", unfollowed := true, recurses := true, plainKeys := false, apart := false }
def VaultTwiceSaid : Prop := vaultTwiceRow.holds Try.pinned (OpenSpec.ofChange vaultTwiceSpec)

/-- ITS FALSE NEIGHBOUR: 'it returns false'. Refute it at one input. -/
def vaultTwiceWrong : ChangeSpec := { name := "vaultTwice", fn := fun _ => fun
  | [d1, d2] => { results := [.lit (.bool false)], args := [d1, d2] }
  | _ => none }
def VaultTwiceWrongFalsely : Prop := vaultTwiceRow.holds Try.pinned (OpenSpec.ofChange vaultTwiceWrong)

/- THE SECOND FORM. 'bulk': how many values and letters a reading holds, each counted each time it is reached (what is shared counts as often as it is met; a slice's spare places count too). A statement '..UptoSaid' is the law's where the arguments, and the package variables that the reading takes, are together of bulk at most 1048576: NARROWER than '..Said'. Prove '..Said' where nothing that the law and all that it calls make is longer than what came in: it says more and counts as full. Else prove '..UptoSaid'. A law counts once. -/
mutual
def uptoBulk {H : Type} : DataW H → Nat
  | .lit (.string bytes) => bytes.length + 1
  | .lit _ => 1
  | .nil => 1
  | .ptr d => uptoBulk d + 1
  | .slice elems spare => uptoBulkAll elems + uptoBulkAll spare + 1
  | .agg parts => uptoBulkAll parts + 1
  | .iface _ d => uptoBulk d + 1
  | .map entries => uptoBulkEntries entries + 1
  | .held _ => 1
def uptoBulkAll {H : Type} : List (DataW H) → Nat
  | [] => 0
  | d :: r => uptoBulk d + uptoBulkAll r
def uptoBulkEntries {H : Type} : List (Lit × DataW H) → Nat
  | [] => 0
  | x :: r => uptoBulkEntry x + uptoBulkEntries r
def uptoBulkEntry {H : Type} : Lit × DataW H → Nat
  | (.string bytes, d) => bytes.length + uptoBulk d + 1
  | (_, d) => uptoBulk d + 1
 end
def uptoSmall : (H : Type) → List (DataW H) → Bool := fun _ ds => decide (uptoBulkAll ds ≤ 1048576)
def OpenSpec.upto (s : _root_.Go.ChangeSpec) : _root_.Go.OpenSpec := { _root_.Go.OpenSpec.ofChange s with cond := some uptoSmall }

/-- 'carpetbaglaw07.VaultPlays', WHERE WHAT IT READS IS OF BULK AT MOST 1048576: true; the input reads as it did. -/
def vaultPlaysUptoRow : OpenClaim := { program := "ytmbaokfcdfhfeaa", sum := "4db5baca87d173956d07a03c8259223683b703eddabd203c03157d1b4883fd22", func := "carpetbag/carpetbaglaw07.VaultPlays", spec := "vaultPlays", unfollowed := true, recurses := true, plainKeys := false, apart := false, narrowed := true }
def VaultPlaysUptoSaid : Prop := vaultPlaysUptoRow.holds Try.pinned (OpenSpec.upto vaultPlaysSpec)

/-- 'carpetbaglaw07.VaultOpens', WHERE WHAT IT READS IS OF BULK AT MOST 1048576: true; the input reads as it did. -/
def vaultOpensUptoRow : OpenClaim := { program := "ytmbaokfcdfhfeaa", sum := "4db5baca87d173956d07a03c8259223683b703eddabd203c03157d1b4883fd22", func := "carpetbag/carpetbaglaw07.VaultOpens", spec := "vaultOpens", unfollowed := true, recurses := true, plainKeys := false, apart := false, narrowed := true }
def VaultOpensUptoSaid : Prop := vaultOpensUptoRow.holds Try.pinned (OpenSpec.upto vaultOpensSpec)

/-- 'carpetbaglaw07.VaultBlind', WHERE WHAT IT READS IS OF BULK AT MOST 1048576: true; the input reads as it did. -/
def vaultBlindUptoRow : OpenClaim := { program := "ytmbaokfcdfhfeaa", sum := "4db5baca87d173956d07a03c8259223683b703eddabd203c03157d1b4883fd22", func := "carpetbag/carpetbaglaw07.VaultBlind", spec := "vaultBlind", unfollowed := true, recurses := true, plainKeys := false, apart := false, narrowed := true }
def VaultBlindUptoSaid : Prop := vaultBlindUptoRow.holds Try.pinned (OpenSpec.upto vaultBlindSpec)

/-- 'carpetbaglaw07.VaultNames', WHERE WHAT IT READS IS OF BULK AT MOST 1048576: true; the input reads as it did. -/
def vaultNamesUptoRow : OpenClaim := { program := "ytmbaokfcdfhfeaa", sum := "4db5baca87d173956d07a03c8259223683b703eddabd203c03157d1b4883fd22", func := "carpetbag/carpetbaglaw07.VaultNames", spec := "vaultNames", unfollowed := true, recurses := true, plainKeys := false, apart := false, narrowed := true }
def VaultNamesUptoSaid : Prop := vaultNamesUptoRow.holds Try.pinned (OpenSpec.upto vaultNamesSpec)

/-- 'carpetbaglaw07.VaultKeeps', WHERE WHAT IT READS IS OF BULK AT MOST 1048576: true; the input reads as it did. -/
def vaultKeepsUptoRow : OpenClaim := { program := "ytmbaokfcdfhfeaa", sum := "4db5baca87d173956d07a03c8259223683b703eddabd203c03157d1b4883fd22", func := "carpetbag/carpetbaglaw07.VaultKeeps", spec := "vaultKeeps", unfollowed := true, recurses := true, plainKeys := false, apart := false, narrowed := true }
def VaultKeepsUptoSaid : Prop := vaultKeepsUptoRow.holds Try.pinned (OpenSpec.upto vaultKeepsSpec)

/-- 'carpetbaglaw07.VaultDraws', WHERE WHAT IT READS IS OF BULK AT MOST 1048576: true; the input reads as it did. -/
def vaultDrawsUptoRow : OpenClaim := { program := "ytmbaokfcdfhfeaa", sum := "4db5baca87d173956d07a03c8259223683b703eddabd203c03157d1b4883fd22", func := "carpetbag/carpetbaglaw07.VaultDraws", spec := "vaultDraws", unfollowed := true, recurses := true, plainKeys := false, apart := false, narrowed := true }
def VaultDrawsUptoSaid : Prop := vaultDrawsUptoRow.holds Try.pinned (OpenSpec.upto vaultDrawsSpec)

/-- 'carpetbaglaw07.VaultTwice', WHERE WHAT IT READS IS OF BULK AT MOST 1048576: true; the input reads as it did. -/
def vaultTwiceUptoRow : OpenClaim := { program := "ytmbaokfcdfhfeaa", sum := "4db5baca87d173956d07a03c8259223683b703eddabd203c03157d1b4883fd22", func := "carpetbag/carpetbaglaw07.VaultTwice", spec := "vaultTwice", unfollowed := true, recurses := true, plainKeys := false, apart := false, narrowed := true }
def VaultTwiceUptoSaid : Prop := vaultTwiceUptoRow.holds Try.pinned (OpenSpec.upto vaultTwiceSpec)

end Rows
end Go.Proofs.Ytmbaokfcdfhfeaa
