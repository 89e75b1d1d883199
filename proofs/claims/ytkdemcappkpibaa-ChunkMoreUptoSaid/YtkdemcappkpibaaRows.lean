/-
  No cell of these rows narrows 'for every input' (looked for: loops, veiled, ifaces, maps, wideKeys, modest, calm, conditions, laid).
  DERIVED. THE GIVEN ROWS OF THIS SEAT. 6 by the template 'for every input the law returns true; each argument reads behind the call as it read before'; 0 by the template 'total and deterministic' (their statements: YtkdemcappkpibaaTotals.lean).
  GIVEN WITH THE SEED: the statements are not yours to turn. If you find one false, say at which input.
  Laid BY PROGRAM, IN A SANDBOX (cutbox-rows.mjs): the forced cells as the released guide's own fill.sh prints them over the translation 81e1036c9b17192c… (all of the seat's roots in one cut). By AI agents, Wed Nov 11 2026. No macro, syntax, notation, axiom, sorry.
-/
import Derived.Test.YtkdemcappkpibaaChecked
import GoSem.Claim
import GoSem.ClaimJoined
import GoSem.ClaimMapViews
import Derived.JoinedTies
import Derived.KernelRfl
namespace Go.Proofs.Ytkdemcappkpibaa
/- THE CELL 'sum', in the pinned program and in every row, IS THE sha256 OF THE DUMP (.gsa) THAT YtkdemcappkpibaaProg.lean LOADS. Nothing in Lean hashes anything: it is a label: what it is worth is what the hold of that sum in a sandbox is worth. -/
noncomputable def Try.pinned : Pinned := { name := "ytkdemcappkpibaa", sum := "81e1036c9b17192c24fac81c0a36ec379b965b4866f3f333ef440ae1ca9610b3", checked := Try.checked }
namespace Rows
def none {H : Type} : Left H := { results := [], args := [] }

/-- 'carpetbaglaw08.ChunkTells': WHATEVER THE INPUT: true; the input reads as it did. -/
def chunkTellsSpec : ChangeSpec := { name := "chunkTells", fn := fun _ => fun
  | [d1, d2, d3, d4, d5] => { results := [.lit (.bool true)], args := [d1, d2, d3, d4, d5] }
  | _ => none }
def chunkTellsRow : OpenClaim := { program := "ytkdemcappkpibaa", sum := "81e1036c9b17192c24fac81c0a36ec379b965b4866f3f333ef440ae1ca9610b3", func := "carpetbag/carpetbaglaw08.ChunkTells", spec := "chunkTells", inPlace := ["internal/abi.NoEscape", "internal/bytealg.MakeNoZero"], unfollowed := true, recurses := true, apart := false }
def ChunkTellsSaid : Prop := chunkTellsRow.holds Try.pinned (OpenSpec.ofChange chunkTellsSpec)

/-- ITS FALSE NEIGHBOUR: 'it returns false'. Refute it at one input. -/
def chunkTellsWrong : ChangeSpec := { name := "chunkTells", fn := fun _ => fun
  | [d1, d2, d3, d4, d5] => { results := [.lit (.bool false)], args := [d1, d2, d3, d4, d5] }
  | _ => none }
def ChunkTellsWrongFalsely : Prop := chunkTellsRow.holds Try.pinned (OpenSpec.ofChange chunkTellsWrong)

/-- 'carpetbaglaw08.ChunkBack': WHATEVER THE INPUT: true; the input reads as it did. -/
def chunkBackSpec : ChangeSpec := { name := "chunkBack", fn := fun _ => fun
  | [d1, d2] => { results := [.lit (.bool true)], args := [d1, d2] }
  | _ => none }
def chunkBackRow : OpenClaim := { program := "ytkdemcappkpibaa", sum := "81e1036c9b17192c24fac81c0a36ec379b965b4866f3f333ef440ae1ca9610b3", func := "carpetbag/carpetbaglaw08.ChunkBack", spec := "chunkBack", inPlace := ["internal/abi.NoEscape", "internal/bytealg.MakeNoZero"], unfollowed := true, recurses := true, apart := false }
def ChunkBackSaid : Prop := chunkBackRow.holds Try.pinned (OpenSpec.ofChange chunkBackSpec)

/-- ITS FALSE NEIGHBOUR: 'it returns false'. Refute it at one input. -/
def chunkBackWrong : ChangeSpec := { name := "chunkBack", fn := fun _ => fun
  | [d1, d2] => { results := [.lit (.bool false)], args := [d1, d2] }
  | _ => none }
def ChunkBackWrongFalsely : Prop := chunkBackRow.holds Try.pinned (OpenSpec.ofChange chunkBackWrong)

/-- 'carpetbaglaw08.ChunkLabels': WHATEVER THE INPUT: true; the input reads as it did. -/
def chunkLabelsSpec : ChangeSpec := { name := "chunkLabels", fn := fun _ => fun
  | [d1, d2] => { results := [.lit (.bool true)], args := [d1, d2] }
  | _ => none }
def chunkLabelsRow : OpenClaim := { program := "ytkdemcappkpibaa", sum := "81e1036c9b17192c24fac81c0a36ec379b965b4866f3f333ef440ae1ca9610b3", func := "carpetbag/carpetbaglaw08.ChunkLabels", spec := "chunkLabels", inPlace := ["internal/abi.NoEscape", "internal/bytealg.MakeNoZero"], unfollowed := true, recurses := true, apart := false }
def ChunkLabelsSaid : Prop := chunkLabelsRow.holds Try.pinned (OpenSpec.ofChange chunkLabelsSpec)

/-- ITS FALSE NEIGHBOUR: 'it returns false'. Refute it at one input. -/
def chunkLabelsWrong : ChangeSpec := { name := "chunkLabels", fn := fun _ => fun
  | [d1, d2] => { results := [.lit (.bool false)], args := [d1, d2] }
  | _ => none }
def ChunkLabelsWrongFalsely : Prop := chunkLabelsRow.holds Try.pinned (OpenSpec.ofChange chunkLabelsWrong)

/-- 'carpetbaglaw08.ChunkMore': WHATEVER THE INPUT: true; the input reads as it did. -/
def chunkMoreSpec : ChangeSpec := { name := "chunkMore", fn := fun _ => fun
  | [d1, d2] => { results := [.lit (.bool true)], args := [d1, d2] }
  | _ => none }
def chunkMoreRow : OpenClaim := { program := "ytkdemcappkpibaa", sum := "81e1036c9b17192c24fac81c0a36ec379b965b4866f3f333ef440ae1ca9610b3", func := "carpetbag/carpetbaglaw08.ChunkMore", spec := "chunkMore", inPlace := ["internal/abi.NoEscape", "internal/bytealg.MakeNoZero"], unfollowed := true, recurses := true, apart := false }
def ChunkMoreSaid : Prop := chunkMoreRow.holds Try.pinned (OpenSpec.ofChange chunkMoreSpec)

/-- ITS FALSE NEIGHBOUR: 'it returns false'. Refute it at one input. -/
def chunkMoreWrong : ChangeSpec := { name := "chunkMore", fn := fun _ => fun
  | [d1, d2] => { results := [.lit (.bool false)], args := [d1, d2] }
  | _ => none }
def ChunkMoreWrongFalsely : Prop := chunkMoreRow.holds Try.pinned (OpenSpec.ofChange chunkMoreWrong)

/-- 'carpetbaglaw08.ChunkSizes': WHATEVER THE INPUT: true; the input reads as it did. -/
def chunkSizesSpec : ChangeSpec := { name := "chunkSizes", fn := fun _ => fun
  | [d] => { results := [.lit (.bool true)], args := [d] }
  | _ => none }
def chunkSizesRow : OpenClaim := { program := "ytkdemcappkpibaa", sum := "81e1036c9b17192c24fac81c0a36ec379b965b4866f3f333ef440ae1ca9610b3", func := "carpetbag/carpetbaglaw08.ChunkSizes", spec := "chunkSizes", inPlace := ["internal/abi.NoEscape", "internal/bytealg.MakeNoZero"], unfollowed := true, recurses := true, apart := false }
def ChunkSizesSaid : Prop := chunkSizesRow.holds Try.pinned (OpenSpec.ofChange chunkSizesSpec)

/-- ITS FALSE NEIGHBOUR: 'it returns false'. Refute it at one input. -/
def chunkSizesWrong : ChangeSpec := { name := "chunkSizes", fn := fun _ => fun
  | [d] => { results := [.lit (.bool false)], args := [d] }
  | _ => none }
def ChunkSizesWrongFalsely : Prop := chunkSizesRow.holds Try.pinned (OpenSpec.ofChange chunkSizesWrong)

/-- 'carpetbaglaw08.ChunkNone': WHATEVER THE INPUT: true; the input reads as it did. -/
def chunkNoneSpec : ChangeSpec := { name := "chunkNone", fn := fun _ => fun
  | [d1, d2, d3] => { results := [.lit (.bool true)], args := [d1, d2, d3] }
  | _ => none }
def chunkNoneRow : OpenClaim := { program := "ytkdemcappkpibaa", sum := "81e1036c9b17192c24fac81c0a36ec379b965b4866f3f333ef440ae1ca9610b3", func := "carpetbag/carpetbaglaw08.ChunkNone", spec := "chunkNone", inPlace := ["internal/abi.NoEscape", "internal/bytealg.MakeNoZero"], unfollowed := true, recurses := true, apart := false }
def ChunkNoneSaid : Prop := chunkNoneRow.holds Try.pinned (OpenSpec.ofChange chunkNoneSpec)

/-- ITS FALSE NEIGHBOUR: 'it returns false'. Refute it at one input. -/
def chunkNoneWrong : ChangeSpec := { name := "chunkNone", fn := fun _ => fun
  | [d1, d2, d3] => { results := [.lit (.bool false)], args := [d1, d2, d3] }
  | _ => none }
def ChunkNoneWrongFalsely : Prop := chunkNoneRow.holds Try.pinned (OpenSpec.ofChange chunkNoneWrong)

/- THE SECOND FORM. 'bulk': how many values and letters a reading holds, each counted each time it is reached (what is shared counts as often as it is met; a slice's spare places count too). A statement '..UptoSaid' is the law's where the arguments, and the package variables that the reading takes, are together of bulk at most 1048576: NARROWER than '..Said'. Prove '..Said' where nothing that the law and all that it calls make is longer than what came in: it says more and counts as full. Else prove '..UptoSaid'. A law counts once. -/
mutual
def uptoBulk {H : Type} : DataW H → Nat
  | .lit (.string bytes) => bytes.length + 1
  | .lit _ => 1
  | .nil => 1
  | .ptr d => uptoBulk d + 1
  | .slice elems spare => uptoBulkAll elems + uptoBulkAll spare + 1
  | .agg parts => uptoBulkAll parts + 1
  | .iface _ d => uptoBulk d + 1
  | .map entries => uptoBulkEntries entries + 1
  | .held _ => 1
def uptoBulkAll {H : Type} : List (DataW H) → Nat
  | [] => 0
  | d :: r => uptoBulk d + uptoBulkAll r
def uptoBulkEntries {H : Type} : List (Lit × DataW H) → Nat
  | [] => 0
  | x :: r => uptoBulkEntry x + uptoBulkEntries r
def uptoBulkEntry {H : Type} : Lit × DataW H → Nat
  | (.string bytes, d) => bytes.length + uptoBulk d + 1
  | (_, d) => uptoBulk d + 1
 end
def uptoSmall : (H : Type) → List (DataW H) → Bool := fun _ ds => decide (uptoBulkAll ds ≤ 1048576)
def OpenSpec.upto (s : _root_.Go.ChangeSpec) : _root_.Go.OpenSpec := { _root_.Go.OpenSpec.ofChange s with cond := some uptoSmall }

/-- 'carpetbaglaw08.ChunkTells', WHERE WHAT IT READS IS OF BULK AT MOST 1048576: true; the input reads as it did. -/
def chunkTellsUptoRow : OpenClaim := { program := "ytkdemcappkpibaa", sum := "81e1036c9b17192c24fac81c0a36ec379b965b4866f3f333ef440ae1ca9610b3", func := "carpetbag/carpetbaglaw08.ChunkTells", spec := "chunkTells", inPlace := ["internal/abi.NoEscape", "internal/bytealg.MakeNoZero"], unfollowed := true, recurses := true, apart := false, narrowed := true }
def ChunkTellsUptoSaid : Prop := chunkTellsUptoRow.holds Try.pinned (OpenSpec.upto chunkTellsSpec)

/-- 'carpetbaglaw08.ChunkBack', WHERE WHAT IT READS IS OF BULK AT MOST 1048576: true; the input reads as it did. -/
def chunkBackUptoRow : OpenClaim := { program := "ytkdemcappkpibaa", sum := "81e1036c9b17192c24fac81c0a36ec379b965b4866f3f333ef440ae1ca9610b3", func := "carpetbag/carpetbaglaw08.ChunkBack", spec := "chunkBack", inPlace := ["internal/abi.NoEscape", "internal/bytealg.MakeNoZero"], unfollowed := true, recurses := true, apart := false, narrowed := true }
def ChunkBackUptoSaid : Prop := chunkBackUptoRow.holds Try.pinned (OpenSpec.upto chunkBackSpec)

/-- 'carpetbaglaw08.ChunkLabels', WHERE WHAT IT READS IS OF BULK AT MOST 1048576: true; the input reads as it did. -/
def chunkLabelsUptoRow : OpenClaim := { program := "ytkdemcappkpibaa", sum := "81e1036c9b17192c24fac81c0a36ec379b965b4866f3f333ef440ae1ca9610b3", func := "carpetbag/carpetbaglaw08.ChunkLabels", spec := "chunkLabels", inPlace := ["internal/abi.NoEscape", "internal/bytealg.MakeNoZero"], unfollowed := true, recurses := true, apart := false, narrowed := true }
def ChunkLabelsUptoSaid : Prop := chunkLabelsUptoRow.holds Try.pinned (OpenSpec.upto chunkLabelsSpec)

/-- 'carpetbaglaw08.ChunkMore', WHERE WHAT IT READS IS OF BULK AT MOST 1048576: true; the input reads as it did. -/
def chunkMoreUptoRow : OpenClaim := { program := "ytkdemcappkpibaa", sum := "81e1036c9b17192c24fac81c0a36ec379b965b4866f3f333ef440ae1ca9610b3", func := "carpetbag/carpetbaglaw08.ChunkMore", spec := "chunkMore", inPlace := ["internal/abi.NoEscape", "internal/bytealg.MakeNoZero"], unfollowed := true, recurses := true, apart := false, narrowed := true }
def ChunkMoreUptoSaid : Prop := chunkMoreUptoRow.holds Try.pinned (OpenSpec.upto chunkMoreSpec)

/-- 'carpetbaglaw08.ChunkSizes', WHERE WHAT IT READS IS OF BULK AT MOST 1048576: true; the input reads as it did. -/
def chunkSizesUptoRow : OpenClaim := { program := "ytkdemcappkpibaa", sum := "81e1036c9b17192c24fac81c0a36ec379b965b4866f3f333ef440ae1ca9610b3", func := "carpetbag/carpetbaglaw08.ChunkSizes", spec := "chunkSizes", inPlace := ["internal/abi.NoEscape", "internal/bytealg.MakeNoZero"], unfollowed := true, recurses := true, apart := false, narrowed := true }
def ChunkSizesUptoSaid : Prop := chunkSizesUptoRow.holds Try.pinned (OpenSpec.upto chunkSizesSpec)

/-- 'carpetbaglaw08.ChunkNone', WHERE WHAT IT READS IS OF BULK AT MOST 1048576: true; the input reads as it did. -/
def chunkNoneUptoRow : OpenClaim := { program := "ytkdemcappkpibaa", sum := "81e1036c9b17192c24fac81c0a36ec379b965b4866f3f333ef440ae1ca9610b3", func := "carpetbag/carpetbaglaw08.ChunkNone", spec := "chunkNone", inPlace := ["internal/abi.NoEscape", "internal/bytealg.MakeNoZero"], unfollowed := true, recurses := true, apart := false, narrowed := true }
def ChunkNoneUptoSaid : Prop := chunkNoneUptoRow.holds Try.pinned (OpenSpec.upto chunkNoneSpec)

end Rows
end Go.Proofs.Ytkdemcappkpibaa
