/-
  No cell of these rows narrows 'for every input' (looked for: loops, veiled, ifaces, maps, wideKeys, modest, calm, conditions, laid).
  DERIVED. THE GIVEN ROWS OF THIS SEAT. 9 by the template 'for every input the law returns true; each argument reads behind the call as it read before'; 0 by the template 'total and deterministic' (their statements: YtfiigeiajhecoaaTotals.lean).
  GIVEN WITH THE SEED: the statements are not yours to turn. If you find one false, say at which input.
  Laid BY PROGRAM, IN A SANDBOX (cutbox-rows.mjs): the forced cells as the released guide's own fill.sh prints them over the translation 3114a848437ae7cf… (all of the seat's roots in one cut). By AI agents, Wed Nov 11 2026. No macro, syntax, notation, axiom, sorry.
-/
import Derived.Test.YtfiigeiajhecoaaChecked
import GoSem.Claim
import GoSem.ClaimJoined
import GoSem.ClaimMapViews
import Derived.JoinedTies
import Derived.KernelRfl
namespace Go.Proofs.Ytfiigeiajhecoaa
/- THE CELL 'sum', in the pinned program and in every row, IS THE sha256 OF THE DUMP (.gsa) THAT YtfiigeiajhecoaaProg.lean LOADS. Nothing in Lean hashes anything: it is a label: what it is worth is what the hold of that sum in a sandbox is worth. -/
noncomputable def Try.pinned : Pinned := { name := "ytfiigeiajhecoaa", sum := "3114a848437ae7cf756325f07bd2a46008be30db4cfc21118f6ad611cc0438e8", checked := Try.checked }
namespace Rows
def none {H : Type} : Left H := { results := [], args := [] }

/-- 'carpetbaglaw01.WireWrites': WHATEVER THE INPUT: true; the input reads as it did. -/
def wireWritesSpec : ChangeSpec := { name := "wireWrites", fn := fun _ => fun
  | [d1, d2, d3, d4] => { results := [.lit (.bool true)], args := [d1, d2, d3, d4] }
  | _ => none }
def wireWritesRow : OpenClaim := { program := "ytfiigeiajhecoaa", sum := "3114a848437ae7cf756325f07bd2a46008be30db4cfc21118f6ad611cc0438e8", func := "carpetbag/carpetbaglaw01.WireWrites", spec := "wireWrites", apart := false }
def WireWritesSaid : Prop := wireWritesRow.holds Try.pinned (OpenSpec.ofChange wireWritesSpec)

/-- ITS FALSE NEIGHBOUR: 'it returns false'. Refute it at one input. -/
def wireWritesWrong : ChangeSpec := { name := "wireWrites", fn := fun _ => fun
  | [d1, d2, d3, d4] => { results := [.lit (.bool false)], args := [d1, d2, d3, d4] }
  | _ => none }
def WireWritesWrongFalsely : Prop := wireWritesRow.holds Try.pinned (OpenSpec.ofChange wireWritesWrong)

/-- 'carpetbaglaw01.WireReads': WHATEVER THE INPUT: true; the input reads as it did. -/
def wireReadsSpec : ChangeSpec := { name := "wireReads", fn := fun _ => fun
  | [d1, d2] => { results := [.lit (.bool true)], args := [d1, d2] }
  | _ => none }
def wireReadsRow : OpenClaim := { program := "ytfiigeiajhecoaa", sum := "3114a848437ae7cf756325f07bd2a46008be30db4cfc21118f6ad611cc0438e8", func := "carpetbag/carpetbaglaw01.WireReads", spec := "wireReads", apart := false }
def WireReadsSaid : Prop := wireReadsRow.holds Try.pinned (OpenSpec.ofChange wireReadsSpec)

/-- ITS FALSE NEIGHBOUR: 'it returns false'. Refute it at one input. -/
def wireReadsWrong : ChangeSpec := { name := "wireReads", fn := fun _ => fun
  | [d1, d2] => { results := [.lit (.bool false)], args := [d1, d2] }
  | _ => none }
def WireReadsWrongFalsely : Prop := wireReadsRow.holds Try.pinned (OpenSpec.ofChange wireReadsWrong)

/-- 'carpetbaglaw05.PadTells': WHATEVER THE INPUT: true; the input reads as it did. -/
def padTellsSpec : ChangeSpec := { name := "padTells", fn := fun _ => fun
  | [d1, d2, d3] => { results := [.lit (.bool true)], args := [d1, d2, d3] }
  | _ => none }
def padTellsRow : OpenClaim := { program := "ytfiigeiajhecoaa", sum := "3114a848437ae7cf756325f07bd2a46008be30db4cfc21118f6ad611cc0438e8", func := "carpetbag/carpetbaglaw05.PadTells", spec := "padTells", unfollowed := true, recurses := true, apart := false }
def PadTellsSaid : Prop := padTellsRow.holds Try.pinned (OpenSpec.ofChange padTellsSpec)

/-- ITS FALSE NEIGHBOUR: 'it returns false'. Refute it at one input. -/
def padTellsWrong : ChangeSpec := { name := "padTells", fn := fun _ => fun
  | [d1, d2, d3] => { results := [.lit (.bool false)], args := [d1, d2, d3] }
  | _ => none }
def PadTellsWrongFalsely : Prop := padTellsRow.holds Try.pinned (OpenSpec.ofChange padTellsWrong)

/-- 'carpetbaglaw05.PadBack': WHATEVER THE INPUT: true; the input reads as it did. -/
def padBackSpec : ChangeSpec := { name := "padBack", fn := fun _ => fun
  | [d1, d2] => { results := [.lit (.bool true)], args := [d1, d2] }
  | _ => none }
def padBackRow : OpenClaim := { program := "ytfiigeiajhecoaa", sum := "3114a848437ae7cf756325f07bd2a46008be30db4cfc21118f6ad611cc0438e8", func := "carpetbag/carpetbaglaw05.PadBack", spec := "padBack", unfollowed := true, recurses := true, apart := false }
def PadBackSaid : Prop := padBackRow.holds Try.pinned (OpenSpec.ofChange padBackSpec)

/-- ITS FALSE NEIGHBOUR: 'it returns false'. Refute it at one input. -/
def padBackWrong : ChangeSpec := { name := "padBack", fn := fun _ => fun
  | [d1, d2] => { results := [.lit (.bool false)], args := [d1, d2] }
  | _ => none }
def PadBackWrongFalsely : Prop := padBackRow.holds Try.pinned (OpenSpec.ofChange padBackWrong)

/-- 'carpetbaglaw05.PadOne': WHATEVER THE INPUT: true; the input reads as it did. -/
def padOneSpec : ChangeSpec := { name := "padOne", fn := fun _ => fun
  | [d1, d2, d3] => { results := [.lit (.bool true)], args := [d1, d2, d3] }
  | _ => none }
def padOneRow : OpenClaim := { program := "ytfiigeiajhecoaa", sum := "3114a848437ae7cf756325f07bd2a46008be30db4cfc21118f6ad611cc0438e8", func := "carpetbag/carpetbaglaw05.PadOne", spec := "padOne", unfollowed := true, recurses := true, apart := false }
def PadOneSaid : Prop := padOneRow.holds Try.pinned (OpenSpec.ofChange padOneSpec)

/-- ITS FALSE NEIGHBOUR: 'it returns false'. Refute it at one input. -/
def padOneWrong : ChangeSpec := { name := "padOne", fn := fun _ => fun
  | [d1, d2, d3] => { results := [.lit (.bool false)], args := [d1, d2, d3] }
  | _ => none }
def PadOneWrongFalsely : Prop := padOneRow.holds Try.pinned (OpenSpec.ofChange padOneWrong)

/-- 'carpetbaglaw05.PadRises': WHATEVER THE INPUT: true; the input reads as it did. -/
def padRisesSpec : ChangeSpec := { name := "padRises", fn := fun _ => fun
  | [d1, d2] => { results := [.lit (.bool true)], args := [d1, d2] }
  | _ => none }
def padRisesRow : OpenClaim := { program := "ytfiigeiajhecoaa", sum := "3114a848437ae7cf756325f07bd2a46008be30db4cfc21118f6ad611cc0438e8", func := "carpetbag/carpetbaglaw05.PadRises", spec := "padRises", unfollowed := true, recurses := true, apart := false }
def PadRisesSaid : Prop := padRisesRow.holds Try.pinned (OpenSpec.ofChange padRisesSpec)

/-- ITS FALSE NEIGHBOUR: 'it returns false'. Refute it at one input. -/
def padRisesWrong : ChangeSpec := { name := "padRises", fn := fun _ => fun
  | [d1, d2] => { results := [.lit (.bool false)], args := [d1, d2] }
  | _ => none }
def PadRisesWrongFalsely : Prop := padRisesRow.holds Try.pinned (OpenSpec.ofChange padRisesWrong)

/-- 'carpetbaglaw05.PadAlike': WHATEVER THE INPUT: true; the input reads as it did. -/
def padAlikeSpec : ChangeSpec := { name := "padAlike", fn := fun _ => fun
  | [d1, d2] => { results := [.lit (.bool true)], args := [d1, d2] }
  | _ => none }
def padAlikeRow : OpenClaim := { program := "ytfiigeiajhecoaa", sum := "3114a848437ae7cf756325f07bd2a46008be30db4cfc21118f6ad611cc0438e8", func := "carpetbag/carpetbaglaw05.PadAlike", spec := "padAlike", unfollowed := true, recurses := true, apart := false }
def PadAlikeSaid : Prop := padAlikeRow.holds Try.pinned (OpenSpec.ofChange padAlikeSpec)

/-- ITS FALSE NEIGHBOUR: 'it returns false'. Refute it at one input. -/
def padAlikeWrong : ChangeSpec := { name := "padAlike", fn := fun _ => fun
  | [d1, d2] => { results := [.lit (.bool false)], args := [d1, d2] }
  | _ => none }
def PadAlikeWrongFalsely : Prop := padAlikeRow.holds Try.pinned (OpenSpec.ofChange padAlikeWrong)

/-- 'carpetbaglaw05.PadSizes': WHATEVER THE INPUT: true; the input reads as it did. -/
def padSizesSpec : ChangeSpec := { name := "padSizes", fn := fun _ => fun
  | [d] => { results := [.lit (.bool true)], args := [d] }
  | _ => none }
def padSizesRow : OpenClaim := { program := "ytfiigeiajhecoaa", sum := "3114a848437ae7cf756325f07bd2a46008be30db4cfc21118f6ad611cc0438e8", func := "carpetbag/carpetbaglaw05.PadSizes", spec := "padSizes", unfollowed := true, recurses := true, apart := false }
def PadSizesSaid : Prop := padSizesRow.holds Try.pinned (OpenSpec.ofChange padSizesSpec)

/-- ITS FALSE NEIGHBOUR: 'it returns false'. Refute it at one input. -/
def padSizesWrong : ChangeSpec := { name := "padSizes", fn := fun _ => fun
  | [d] => { results := [.lit (.bool false)], args := [d] }
  | _ => none }
def PadSizesWrongFalsely : Prop := padSizesRow.holds Try.pinned (OpenSpec.ofChange padSizesWrong)

/-- 'carpetbaglaw05.PadZeros': WHATEVER THE INPUT: true; the input reads as it did. -/
def padZerosSpec : ChangeSpec := { name := "padZeros", fn := fun _ => fun
  | [d1, d2] => { results := [.lit (.bool true)], args := [d1, d2] }
  | _ => none }
def padZerosRow : OpenClaim := { program := "ytfiigeiajhecoaa", sum := "3114a848437ae7cf756325f07bd2a46008be30db4cfc21118f6ad611cc0438e8", func := "carpetbag/carpetbaglaw05.PadZeros", spec := "padZeros", unfollowed := true, recurses := true, apart := false }
def PadZerosSaid : Prop := padZerosRow.holds Try.pinned (OpenSpec.ofChange padZerosSpec)

/-- ITS FALSE NEIGHBOUR: 'it returns false'. Refute it at one input. -/
def padZerosWrong : ChangeSpec := { name := "padZeros", fn := fun _ => fun
  | [d1, d2] => { results := [.lit (.bool false)], args := [d1, d2] }
  | _ => none }
def PadZerosWrongFalsely : Prop := padZerosRow.holds Try.pinned (OpenSpec.ofChange padZerosWrong)

/- THE SECOND FORM. 'bulk': how many values and letters a reading holds, each counted each time it is reached (what is shared counts as often as it is met; a slice's spare places count too). A statement '..UptoSaid' is the law's where the arguments, and the package variables that the reading takes, are together of bulk at most 1048576: NARROWER than '..Said'. Prove '..Said' where nothing that the law and all that it calls make is longer than what came in: it says more and counts as full. Else prove '..UptoSaid'. A law counts once. -/
mutual
def uptoBulk {H : Type} : DataW H → Nat
  | .lit (.string bytes) => bytes.length + 1
  | .lit _ => 1
  | .nil => 1
  | .ptr d => uptoBulk d + 1
  | .slice elems spare => uptoBulkAll elems + uptoBulkAll spare + 1
  | .agg parts => uptoBulkAll parts + 1
  | .iface _ d => uptoBulk d + 1
  | .map entries => uptoBulkEntries entries + 1
  | .held _ => 1
def uptoBulkAll {H : Type} : List (DataW H) → Nat
  | [] => 0
  | d :: r => uptoBulk d + uptoBulkAll r
def uptoBulkEntries {H : Type} : List (Lit × DataW H) → Nat
  | [] => 0
  | x :: r => uptoBulkEntry x + uptoBulkEntries r
def uptoBulkEntry {H : Type} : Lit × DataW H → Nat
  | (.string bytes, d) => bytes.length + uptoBulk d + 1
  | (_, d) => uptoBulk d + 1
 end
def uptoSmall : (H : Type) → List (DataW H) → Bool := fun _ ds => decide (uptoBulkAll ds ≤ 1048576)
def OpenSpec.upto (s : _root_.Go.ChangeSpec) : _root_.Go.OpenSpec := { _root_.Go.OpenSpec.ofChange s with cond := some uptoSmall }

/-- 'carpetbaglaw01.WireWrites', WHERE WHAT IT READS IS OF BULK AT MOST 1048576: true; the input reads as it did. -/
def wireWritesUptoRow : OpenClaim := { program := "ytfiigeiajhecoaa", sum := "3114a848437ae7cf756325f07bd2a46008be30db4cfc21118f6ad611cc0438e8", func := "carpetbag/carpetbaglaw01.WireWrites", spec := "wireWrites", apart := false, narrowed := true }
def WireWritesUptoSaid : Prop := wireWritesUptoRow.holds Try.pinned (OpenSpec.upto wireWritesSpec)

/-- 'carpetbaglaw01.WireReads', WHERE WHAT IT READS IS OF BULK AT MOST 1048576: true; the input reads as it did. -/
def wireReadsUptoRow : OpenClaim := { program := "ytfiigeiajhecoaa", sum := "3114a848437ae7cf756325f07bd2a46008be30db4cfc21118f6ad611cc0438e8", func := "carpetbag/carpetbaglaw01.WireReads", spec := "wireReads", apart := false, narrowed := true }
def WireReadsUptoSaid : Prop := wireReadsUptoRow.holds Try.pinned (OpenSpec.upto wireReadsSpec)

/-- 'carpetbaglaw05.PadTells', WHERE WHAT IT READS IS OF BULK AT MOST 1048576: true; the input reads as it did. -/
def padTellsUptoRow : OpenClaim := { program := "ytfiigeiajhecoaa", sum := "3114a848437ae7cf756325f07bd2a46008be30db4cfc21118f6ad611cc0438e8", func := "carpetbag/carpetbaglaw05.PadTells", spec := "padTells", unfollowed := true, recurses := true, apart := false, narrowed := true }
def PadTellsUptoSaid : Prop := padTellsUptoRow.holds Try.pinned (OpenSpec.upto padTellsSpec)

/-- 'carpetbaglaw05.PadBack', WHERE WHAT IT READS IS OF BULK AT MOST 1048576: true; the input reads as it did. -/
def padBackUptoRow : OpenClaim := { program := "ytfiigeiajhecoaa", sum := "3114a848437ae7cf756325f07bd2a46008be30db4cfc21118f6ad611cc0438e8", func := "carpetbag/carpetbaglaw05.PadBack", spec := "padBack", unfollowed := true, recurses := true, apart := false, narrowed := true }
def PadBackUptoSaid : Prop := padBackUptoRow.holds Try.pinned (OpenSpec.upto padBackSpec)

/-- 'carpetbaglaw05.PadOne', WHERE WHAT IT READS IS OF BULK AT MOST 1048576: true; the input reads as it did. -/
def padOneUptoRow : OpenClaim := { program := "ytfiigeiajhecoaa", sum := "3114a848437ae7cf756325f07bd2a46008be30db4cfc21118f6ad611cc0438e8", func := "carpetbag/carpetbaglaw05.PadOne", spec := "padOne", unfollowed := true, recurses := true, apart := false, narrowed := true }
def PadOneUptoSaid : Prop := padOneUptoRow.holds Try.pinned (OpenSpec.upto padOneSpec)

/-- 'carpetbaglaw05.PadRises', WHERE WHAT IT READS IS OF BULK AT MOST 1048576: true; the input reads as it did. -/
def padRisesUptoRow : OpenClaim := { program := "ytfiigeiajhecoaa", sum := "3114a848437ae7cf756325f07bd2a46008be30db4cfc21118f6ad611cc0438e8", func := "carpetbag/carpetbaglaw05.PadRises", spec := "padRises", unfollowed := true, recurses := true, apart := false, narrowed := true }
def PadRisesUptoSaid : Prop := padRisesUptoRow.holds Try.pinned (OpenSpec.upto padRisesSpec)

/-- 'carpetbaglaw05.PadAlike', WHERE WHAT IT READS IS OF BULK AT MOST 1048576: true; the input reads as it did. -/
def padAlikeUptoRow : OpenClaim := { program := "ytfiigeiajhecoaa", sum := "3114a848437ae7cf756325f07bd2a46008be30db4cfc21118f6ad611cc0438e8", func := "carpetbag/carpetbaglaw05.PadAlike", spec := "padAlike", unfollowed := true, recurses := true, apart := false, narrowed := true }
def PadAlikeUptoSaid : Prop := padAlikeUptoRow.holds Try.pinned (OpenSpec.upto padAlikeSpec)

/-- 'carpetbaglaw05.PadSizes', WHERE WHAT IT READS IS OF BULK AT MOST 1048576: true; the input reads as it did. -/
def padSizesUptoRow : OpenClaim := { program := "ytfiigeiajhecoaa", sum := "3114a848437ae7cf756325f07bd2a46008be30db4cfc21118f6ad611cc0438e8", func := "carpetbag/carpetbaglaw05.PadSizes", spec := "padSizes", unfollowed := true, recurses := true, apart := false, narrowed := true }
def PadSizesUptoSaid : Prop := padSizesUptoRow.holds Try.pinned (OpenSpec.upto padSizesSpec)

/-- 'carpetbaglaw05.PadZeros', WHERE WHAT IT READS IS OF BULK AT MOST 1048576: true; the input reads as it did. -/
def padZerosUptoRow : OpenClaim := { program := "ytfiigeiajhecoaa", sum := "3114a848437ae7cf756325f07bd2a46008be30db4cfc21118f6ad611cc0438e8", func := "carpetbag/carpetbaglaw05.PadZeros", spec := "padZeros", unfollowed := true, recurses := true, apart := false, narrowed := true }
def PadZerosUptoSaid : Prop := padZerosUptoRow.holds Try.pinned (OpenSpec.upto padZerosSpec)

end Rows
end Go.Proofs.Ytfiigeiajhecoaa
