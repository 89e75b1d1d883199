/-
  NARROWER THAN 'FOR EVERY INPUT', by the rows' own cells (each row's printed sentence says how): RecordTells: laid · RecordReads: laid · RecordBack: laid · RecordApart: laid · RecordCut: laid · RecordChunks: laid · RecordSize: laid.
  DERIVED. THE GIVEN ROWS OF THIS SEAT. 7 by the template 'for every input the law returns true; each argument reads behind the call as it read before'; 0 by the template 'total and deterministic' (their statements: YtlknoahpliaigaaDoorTotals.lean).
  GIVEN WITH THE SEED: the statements are not yours to turn. If you find one false, say at which input.
  Laid BY PROGRAM, IN A SANDBOX (cutbox-rows.mjs): the forced cells as the released guide's own fill.sh prints them over the translation 63b414ed6aef9d37… (all of the seat's roots in one cut). By AI agents, Wed Nov 11 2026. No macro, syntax, notation, axiom, sorry.
-/
import Derived.Test.YtlknoahpliaigaaDoorChecked
import GoSem.PinnedTables
import GoSem.Claim
import GoSem.ClaimJoined
import GoSem.ClaimMapViews
import Derived.JoinedTies
import Derived.KernelRfl
namespace Go.Proofs.YtlknoahpliaigaaDoor
/- THE CELL 'sum', in the pinned program and in every row, IS THE sha256 OF THE DUMP (.gsa) THAT YtlknoahpliaigaaDoorProg.lean LOADS. Nothing in Lean hashes anything: it is a label: what it is worth is what the hold of that sum in a sandbox is worth. -/
noncomputable def Tryd.pinned : Pinned := { name := "ytlknoahpliaigaadoor", sum := "63b414ed6aef9d370d1f4b37e1499d9e1c618e958143810fef678fc911eea1af", checked := Tryd.checked }
namespace Rows
def none {H : Type} : Left H := { results := [], args := [] }

/- WHAT THE LISTED PACKAGE-LEVEL VARIABLES READ AS WHEN THE CALL BEGINS. Each datum BY PROGRAM (the guide's laid-datum.mjs) off the statement by which the dump's own 'gosem.cut.vars' lays the variable. In a bare row this is a premise. The card (YtlknoahpliaigaaDoorCards.lean) ties it to the program's text. -/
def laid_unicode_utf8_acceptRanges {H : Type} : DataW H := .agg [.agg [.lit (.int .u8 128), .lit (.int .u8 191)], .agg [.lit (.int .u8 160), .lit (.int .u8 191)], .agg [.lit (.int .u8 128), .lit (.int .u8 159)], .agg [.lit (.int .u8 144), .lit (.int .u8 191)], .agg [.lit (.int .u8 128), .lit (.int .u8 143)], .agg [.lit (.int .u8 0), .lit (.int .u8 0)], .agg [.lit (.int .u8 0), .lit (.int .u8 0)], .agg [.lit (.int .u8 0), .lit (.int .u8 0)], .agg [.lit (.int .u8 0), .lit (.int .u8 0)], .agg [.lit (.int .u8 0), .lit (.int .u8 0)], .agg [.lit (.int .u8 0), .lit (.int .u8 0)], .agg [.lit (.int .u8 0), .lit (.int .u8 0)], .agg [.lit (.int .u8 0), .lit (.int .u8 0)], .agg [.lit (.int .u8 0), .lit (.int .u8 0)], .agg [.lit (.int .u8 0), .lit (.int .u8 0)], .agg [.lit (.int .u8 0), .lit (.int .u8 0)]]
/-- One of Go's own tables, pinned by name: the form's constant. -/
def laid_unicode_utf8_first : DataW Unit := Go.Pinned.utf8First

/-- 'carpetbaglaw12.RecordTells': WHATEVER THE INPUT: true; the input reads as it did. -/
def recordTellsSpec : ChangeSpec := { name := "recordTells", fn := fun _ => fun
  | [d1, d2] => { results := [.lit (.bool true)], args := [d1, d2] }
  | _ => none }
def recordTellsRow : OpenClaim := { program := "ytlknoahpliaigaadoor", sum := "63b414ed6aef9d370d1f4b37e1499d9e1c618e958143810fef678fc911eea1af", func := "carpetbag/carpetbaglaw12.RecordTells", spec := "recordTells", inPlace := ["internal/bytealg.CountString", "internal/bytealg.IndexByteString", "internal/bytealg.IndexString"], unfollowed := true, recurses := true, named := ["unicode/utf8.first", "unicode/utf8.acceptRanges", "internal/bytealg.MaxLen"], apart := false, laid := [("unicode/utf8.acceptRanges", laid_unicode_utf8_acceptRanges), ("unicode/utf8.first", laid_unicode_utf8_first)] }
def RecordTellsSaid : Prop := recordTellsRow.holds Tryd.pinned (OpenSpec.ofChange recordTellsSpec)

/-- ITS FALSE NEIGHBOUR: 'it returns false'. Refute it at one input. -/
def recordTellsWrong : ChangeSpec := { name := "recordTells", fn := fun _ => fun
  | [d1, d2] => { results := [.lit (.bool false)], args := [d1, d2] }
  | _ => none }
def RecordTellsWrongFalsely : Prop := recordTellsRow.holds Tryd.pinned (OpenSpec.ofChange recordTellsWrong)

/-- 'carpetbaglaw12.RecordReads': WHATEVER THE INPUT: true; the input reads as it did. -/
def recordReadsSpec : ChangeSpec := { name := "recordReads", fn := fun _ => fun
  | [d] => { results := [.lit (.bool true)], args := [d] }
  | _ => none }
def recordReadsRow : OpenClaim := { program := "ytlknoahpliaigaadoor", sum := "63b414ed6aef9d370d1f4b37e1499d9e1c618e958143810fef678fc911eea1af", func := "carpetbag/carpetbaglaw12.RecordReads", spec := "recordReads", inPlace := ["internal/bytealg.CountString", "internal/bytealg.IndexByteString", "internal/bytealg.IndexString"], unfollowed := true, recurses := true, named := ["unicode/utf8.first", "unicode/utf8.acceptRanges", "internal/bytealg.MaxLen"], apart := false, laid := [("unicode/utf8.acceptRanges", laid_unicode_utf8_acceptRanges), ("unicode/utf8.first", laid_unicode_utf8_first)] }
def RecordReadsSaid : Prop := recordReadsRow.holds Tryd.pinned (OpenSpec.ofChange recordReadsSpec)

/-- ITS FALSE NEIGHBOUR: 'it returns false'. Refute it at one input. -/
def recordReadsWrong : ChangeSpec := { name := "recordReads", fn := fun _ => fun
  | [d] => { results := [.lit (.bool false)], args := [d] }
  | _ => none }
def RecordReadsWrongFalsely : Prop := recordReadsRow.holds Tryd.pinned (OpenSpec.ofChange recordReadsWrong)

/-- 'carpetbaglaw12.RecordBack': WHATEVER THE INPUT: true; the input reads as it did. -/
def recordBackSpec : ChangeSpec := { name := "recordBack", fn := fun _ => fun
  | [d1, d2] => { results := [.lit (.bool true)], args := [d1, d2] }
  | _ => none }
def recordBackRow : OpenClaim := { program := "ytlknoahpliaigaadoor", sum := "63b414ed6aef9d370d1f4b37e1499d9e1c618e958143810fef678fc911eea1af", func := "carpetbag/carpetbaglaw12.RecordBack", spec := "recordBack", inPlace := ["internal/bytealg.CountString", "internal/bytealg.IndexByteString", "internal/bytealg.IndexString"], unfollowed := true, recurses := true, named := ["unicode/utf8.first", "unicode/utf8.acceptRanges", "internal/bytealg.MaxLen"], apart := false, laid := [("unicode/utf8.acceptRanges", laid_unicode_utf8_acceptRanges), ("unicode/utf8.first", laid_unicode_utf8_first)] }
def RecordBackSaid : Prop := recordBackRow.holds Tryd.pinned (OpenSpec.ofChange recordBackSpec)

/-- ITS FALSE NEIGHBOUR: 'it returns false'. Refute it at one input. -/
def recordBackWrong : ChangeSpec := { name := "recordBack", fn := fun _ => fun
  | [d1, d2] => { results := [.lit (.bool false)], args := [d1, d2] }
  | _ => none }
def RecordBackWrongFalsely : Prop := recordBackRow.holds Tryd.pinned (OpenSpec.ofChange recordBackWrong)

/-- 'carpetbaglaw12.RecordApart': WHATEVER THE INPUT: true; the input reads as it did. -/
def recordApartSpec : ChangeSpec := { name := "recordApart", fn := fun _ => fun
  | [d1, d2] => { results := [.lit (.bool true)], args := [d1, d2] }
  | _ => none }
def recordApartRow : OpenClaim := { program := "ytlknoahpliaigaadoor", sum := "63b414ed6aef9d370d1f4b37e1499d9e1c618e958143810fef678fc911eea1af", func := "carpetbag/carpetbaglaw12.RecordApart", spec := "recordApart", inPlace := ["internal/bytealg.CountString", "internal/bytealg.IndexByteString", "internal/bytealg.IndexString"], unfollowed := true, recurses := true, named := ["unicode/utf8.first", "unicode/utf8.acceptRanges", "internal/bytealg.MaxLen"], apart := false, laid := [("unicode/utf8.acceptRanges", laid_unicode_utf8_acceptRanges), ("unicode/utf8.first", laid_unicode_utf8_first)] }
def RecordApartSaid : Prop := recordApartRow.holds Tryd.pinned (OpenSpec.ofChange recordApartSpec)

/-- ITS FALSE NEIGHBOUR: 'it returns false'. Refute it at one input. -/
def recordApartWrong : ChangeSpec := { name := "recordApart", fn := fun _ => fun
  | [d1, d2] => { results := [.lit (.bool false)], args := [d1, d2] }
  | _ => none }
def RecordApartWrongFalsely : Prop := recordApartRow.holds Tryd.pinned (OpenSpec.ofChange recordApartWrong)

/-- 'carpetbaglaw12.RecordCut': WHATEVER THE INPUT: true; the input reads as it did. -/
def recordCutSpec : ChangeSpec := { name := "recordCut", fn := fun _ => fun
  | [d1, d2, d3] => { results := [.lit (.bool true)], args := [d1, d2, d3] }
  | _ => none }
def recordCutRow : OpenClaim := { program := "ytlknoahpliaigaadoor", sum := "63b414ed6aef9d370d1f4b37e1499d9e1c618e958143810fef678fc911eea1af", func := "carpetbag/carpetbaglaw12.RecordCut", spec := "recordCut", inPlace := ["internal/bytealg.CountString", "internal/bytealg.IndexByteString", "internal/bytealg.IndexString"], unfollowed := true, recurses := true, named := ["unicode/utf8.first", "unicode/utf8.acceptRanges", "internal/bytealg.MaxLen"], apart := false, laid := [("unicode/utf8.acceptRanges", laid_unicode_utf8_acceptRanges), ("unicode/utf8.first", laid_unicode_utf8_first)] }
def RecordCutSaid : Prop := recordCutRow.holds Tryd.pinned (OpenSpec.ofChange recordCutSpec)

/-- ITS FALSE NEIGHBOUR: 'it returns false'. Refute it at one input. -/
def recordCutWrong : ChangeSpec := { name := "recordCut", fn := fun _ => fun
  | [d1, d2, d3] => { results := [.lit (.bool false)], args := [d1, d2, d3] }
  | _ => none }
def RecordCutWrongFalsely : Prop := recordCutRow.holds Tryd.pinned (OpenSpec.ofChange recordCutWrong)

/-- 'carpetbaglaw12.RecordChunks': WHATEVER THE INPUT: true; the input reads as it did. -/
def recordChunksSpec : ChangeSpec := { name := "recordChunks", fn := fun _ => fun
  | [d1, d2, d3] => { results := [.lit (.bool true)], args := [d1, d2, d3] }
  | _ => none }
def recordChunksRow : OpenClaim := { program := "ytlknoahpliaigaadoor", sum := "63b414ed6aef9d370d1f4b37e1499d9e1c618e958143810fef678fc911eea1af", func := "carpetbag/carpetbaglaw12.RecordChunks", spec := "recordChunks", inPlace := ["internal/bytealg.CountString", "internal/bytealg.IndexByteString", "internal/bytealg.IndexString"], unfollowed := true, recurses := true, named := ["unicode/utf8.first", "unicode/utf8.acceptRanges", "internal/bytealg.MaxLen"], apart := false, laid := [("unicode/utf8.acceptRanges", laid_unicode_utf8_acceptRanges), ("unicode/utf8.first", laid_unicode_utf8_first)] }
def RecordChunksSaid : Prop := recordChunksRow.holds Tryd.pinned (OpenSpec.ofChange recordChunksSpec)

/-- ITS FALSE NEIGHBOUR: 'it returns false'. Refute it at one input. -/
def recordChunksWrong : ChangeSpec := { name := "recordChunks", fn := fun _ => fun
  | [d1, d2, d3] => { results := [.lit (.bool false)], args := [d1, d2, d3] }
  | _ => none }
def RecordChunksWrongFalsely : Prop := recordChunksRow.holds Tryd.pinned (OpenSpec.ofChange recordChunksWrong)

/-- 'carpetbaglaw12.RecordSize': WHATEVER THE INPUT: true; the input reads as it did. -/
def recordSizeSpec : ChangeSpec := { name := "recordSize", fn := fun _ => fun
  | [d] => { results := [.lit (.bool true)], args := [d] }
  | _ => none }
def recordSizeRow : OpenClaim := { program := "ytlknoahpliaigaadoor", sum := "63b414ed6aef9d370d1f4b37e1499d9e1c618e958143810fef678fc911eea1af", func := "carpetbag/carpetbaglaw12.RecordSize", spec := "recordSize", inPlace := ["internal/bytealg.CountString", "internal/bytealg.IndexByteString", "internal/bytealg.IndexString"], unfollowed := true, recurses := true, named := ["unicode/utf8.first", "unicode/utf8.acceptRanges", "internal/bytealg.MaxLen"], apart := false, laid := [("unicode/utf8.acceptRanges", laid_unicode_utf8_acceptRanges), ("unicode/utf8.first", laid_unicode_utf8_first)] }
def RecordSizeSaid : Prop := recordSizeRow.holds Tryd.pinned (OpenSpec.ofChange recordSizeSpec)

/-- ITS FALSE NEIGHBOUR: 'it returns false'. Refute it at one input. -/
def recordSizeWrong : ChangeSpec := { name := "recordSize", fn := fun _ => fun
  | [d] => { results := [.lit (.bool false)], args := [d] }
  | _ => none }
def RecordSizeWrongFalsely : Prop := recordSizeRow.holds Tryd.pinned (OpenSpec.ofChange recordSizeWrong)

/- THE SECOND FORM. 'bulk': how many values and letters a reading holds, each counted each time it is reached (what is shared counts as often as it is met; a slice's spare places count too). A statement '..UptoSaid' is the law's where the arguments, and the package variables that the reading takes, are together of bulk at most 1048576: NARROWER than '..Said'. Prove '..Said' where nothing that the law and all that it calls make is longer than what came in: it says more and counts as full. Else prove '..UptoSaid'. A law counts once. -/
mutual
def uptoBulk {H : Type} : DataW H → Nat
  | .lit (.string bytes) => bytes.length + 1
  | .lit _ => 1
  | .nil => 1
  | .ptr d => uptoBulk d + 1
  | .slice elems spare => uptoBulkAll elems + uptoBulkAll spare + 1
  | .agg parts => uptoBulkAll parts + 1
  | .iface _ d => uptoBulk d + 1
  | .map entries => uptoBulkEntries entries + 1
  | .held _ => 1
def uptoBulkAll {H : Type} : List (DataW H) → Nat
  | [] => 0
  | d :: r => uptoBulk d + uptoBulkAll r
def uptoBulkEntries {H : Type} : List (Lit × DataW H) → Nat
  | [] => 0
  | x :: r => uptoBulkEntry x + uptoBulkEntries r
def uptoBulkEntry {H : Type} : Lit × DataW H → Nat
  | (.string bytes, d) => bytes.length + uptoBulk d + 1
  | (_, d) => uptoBulk d + 1
 end
def uptoSmall : (H : Type) → List (DataW H) → Bool := fun _ ds => decide (uptoBulkAll ds ≤ 1048576)
def OpenSpec.upto (s : _root_.Go.ChangeSpec) : _root_.Go.OpenSpec := { _root_.Go.OpenSpec.ofChange s with cond := some uptoSmall }

/-- 'carpetbaglaw12.RecordTells', WHERE WHAT IT READS IS OF BULK AT MOST 1048576: true; the input reads as it did. -/
def recordTellsUptoRow : OpenClaim := { program := "ytlknoahpliaigaadoor", sum := "63b414ed6aef9d370d1f4b37e1499d9e1c618e958143810fef678fc911eea1af", func := "carpetbag/carpetbaglaw12.RecordTells", spec := "recordTells", inPlace := ["internal/bytealg.CountString", "internal/bytealg.IndexByteString", "internal/bytealg.IndexString"], unfollowed := true, recurses := true, named := ["unicode/utf8.first", "unicode/utf8.acceptRanges", "internal/bytealg.MaxLen"], apart := false, laid := [("unicode/utf8.acceptRanges", laid_unicode_utf8_acceptRanges), ("unicode/utf8.first", laid_unicode_utf8_first)], narrowed := true }
def RecordTellsUptoSaid : Prop := recordTellsUptoRow.holds Tryd.pinned (OpenSpec.upto recordTellsSpec)

/-- 'carpetbaglaw12.RecordReads', WHERE WHAT IT READS IS OF BULK AT MOST 1048576: true; the input reads as it did. -/
def recordReadsUptoRow : OpenClaim := { program := "ytlknoahpliaigaadoor", sum := "63b414ed6aef9d370d1f4b37e1499d9e1c618e958143810fef678fc911eea1af", func := "carpetbag/carpetbaglaw12.RecordReads", spec := "recordReads", inPlace := ["internal/bytealg.CountString", "internal/bytealg.IndexByteString", "internal/bytealg.IndexString"], unfollowed := true, recurses := true, named := ["unicode/utf8.first", "unicode/utf8.acceptRanges", "internal/bytealg.MaxLen"], apart := false, laid := [("unicode/utf8.acceptRanges", laid_unicode_utf8_acceptRanges), ("unicode/utf8.first", laid_unicode_utf8_first)], narrowed := true }
def RecordReadsUptoSaid : Prop := recordReadsUptoRow.holds Tryd.pinned (OpenSpec.upto recordReadsSpec)

/-- 'carpetbaglaw12.RecordBack', WHERE WHAT IT READS IS OF BULK AT MOST 1048576: true; the input reads as it did. -/
def recordBackUptoRow : OpenClaim := { program := "ytlknoahpliaigaadoor", sum := "63b414ed6aef9d370d1f4b37e1499d9e1c618e958143810fef678fc911eea1af", func := "carpetbag/carpetbaglaw12.RecordBack", spec := "recordBack", inPlace := ["internal/bytealg.CountString", "internal/bytealg.IndexByteString", "internal/bytealg.IndexString"], unfollowed := true, recurses := true, named := ["unicode/utf8.first", "unicode/utf8.acceptRanges", "internal/bytealg.MaxLen"], apart := false, laid := [("unicode/utf8.acceptRanges", laid_unicode_utf8_acceptRanges), ("unicode/utf8.first", laid_unicode_utf8_first)], narrowed := true }
def RecordBackUptoSaid : Prop := recordBackUptoRow.holds Tryd.pinned (OpenSpec.upto recordBackSpec)

/-- 'carpetbaglaw12.RecordApart', WHERE WHAT IT READS IS OF BULK AT MOST 1048576: true; the input reads as it did. -/
def recordApartUptoRow : OpenClaim := { program := "ytlknoahpliaigaadoor", sum := "63b414ed6aef9d370d1f4b37e1499d9e1c618e958143810fef678fc911eea1af", func := "carpetbag/carpetbaglaw12.RecordApart", spec := "recordApart", inPlace := ["internal/bytealg.CountString", "internal/bytealg.IndexByteString", "internal/bytealg.IndexString"], unfollowed := true, recurses := true, named := ["unicode/utf8.first", "unicode/utf8.acceptRanges", "internal/bytealg.MaxLen"], apart := false, laid := [("unicode/utf8.acceptRanges", laid_unicode_utf8_acceptRanges), ("unicode/utf8.first", laid_unicode_utf8_first)], narrowed := true }
def RecordApartUptoSaid : Prop := recordApartUptoRow.holds Tryd.pinned (OpenSpec.upto recordApartSpec)

/-- 'carpetbaglaw12.RecordCut', WHERE WHAT IT READS IS OF BULK AT MOST 1048576: true; the input reads as it did. -/
def recordCutUptoRow : OpenClaim := { program := "ytlknoahpliaigaadoor", sum := "63b414ed6aef9d370d1f4b37e1499d9e1c618e958143810fef678fc911eea1af", func := "carpetbag/carpetbaglaw12.RecordCut", spec := "recordCut", inPlace := ["internal/bytealg.CountString", "internal/bytealg.IndexByteString", "internal/bytealg.IndexString"], unfollowed := true, recurses := true, named := ["unicode/utf8.first", "unicode/utf8.acceptRanges", "internal/bytealg.MaxLen"], apart := false, laid := [("unicode/utf8.acceptRanges", laid_unicode_utf8_acceptRanges), ("unicode/utf8.first", laid_unicode_utf8_first)], narrowed := true }
def RecordCutUptoSaid : Prop := recordCutUptoRow.holds Tryd.pinned (OpenSpec.upto recordCutSpec)

/-- 'carpetbaglaw12.RecordChunks', WHERE WHAT IT READS IS OF BULK AT MOST 1048576: true; the input reads as it did. -/
def recordChunksUptoRow : OpenClaim := { program := "ytlknoahpliaigaadoor", sum := "63b414ed6aef9d370d1f4b37e1499d9e1c618e958143810fef678fc911eea1af", func := "carpetbag/carpetbaglaw12.RecordChunks", spec := "recordChunks", inPlace := ["internal/bytealg.CountString", "internal/bytealg.IndexByteString", "internal/bytealg.IndexString"], unfollowed := true, recurses := true, named := ["unicode/utf8.first", "unicode/utf8.acceptRanges", "internal/bytealg.MaxLen"], apart := false, laid := [("unicode/utf8.acceptRanges", laid_unicode_utf8_acceptRanges), ("unicode/utf8.first", laid_unicode_utf8_first)], narrowed := true }
def RecordChunksUptoSaid : Prop := recordChunksUptoRow.holds Tryd.pinned (OpenSpec.upto recordChunksSpec)

/-- 'carpetbaglaw12.RecordSize', WHERE WHAT IT READS IS OF BULK AT MOST 1048576: true; the input reads as it did. -/
def recordSizeUptoRow : OpenClaim := { program := "ytlknoahpliaigaadoor", sum := "63b414ed6aef9d370d1f4b37e1499d9e1c618e958143810fef678fc911eea1af", func := "carpetbag/carpetbaglaw12.RecordSize", spec := "recordSize", inPlace := ["internal/bytealg.CountString", "internal/bytealg.IndexByteString", "internal/bytealg.IndexString"], unfollowed := true, recurses := true, named := ["unicode/utf8.first", "unicode/utf8.acceptRanges", "internal/bytealg.MaxLen"], apart := false, laid := [("unicode/utf8.acceptRanges", laid_unicode_utf8_acceptRanges), ("unicode/utf8.first", laid_unicode_utf8_first)], narrowed := true }
def RecordSizeUptoSaid : Prop := recordSizeUptoRow.holds Tryd.pinned (OpenSpec.upto recordSizeSpec)

end Rows
end Go.Proofs.YtlknoahpliaigaaDoor
