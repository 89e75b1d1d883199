/-
  Arguments: rows of files, and of numbers, read as pure values.
-/
import Derived.Test.YtihhaeklacphbaaDoorTrM
import Derived.Test.YtihhaeklacphbaaDoorShIn
set_option linter.unusedSimpArgs false
set_option linter.unusedVariables false
namespace Go.Sh.F
open Go.PathLaw Go.TreeLaw Go.Proofs
abbrev iC (z : Int) : List SV := [.int .i64 z]
abbrev iG (z : Int) : Prop := (Lit.int .i64 z).wf = true
theorem oInt : Opn Tryd.prog 3 1 iC iG (fun _ => 0) := Opn.int Tryd.underlying3 (by kernel_rfl)
theorem oStr : Opn Tryd.prog 9 1 (fun z : List UInt8 => [.str z]) (fun _ => True) (fun z => z.length) := Opn.str Tryd.underlying9 (by kernel_rfl)
theorem oInts : Opn Tryd.prog 43 1 (fun z : SV × List Int => [z.1]) (fun z => rdR iC z.1 z.2 ∧ (∀ y ∈ z.2, iG y ∧ (iC y).length = 1) ∧ z.2.length ≤ maxLen) (fun z => (z.2.map fun _ => 0).sum + z.2.length) :=
  Opn.slice oInt Tryd.underlying43 (by kernel_rfl) (by decide)
def bulkF (f : F) : Nat := f.1.length + f.2.length
theorem oF : Opn Tryd.prog 33 2 fC (fun _ => True) bulkF := by
  have h0 := Opn.struct Tryd.underlying33 (by kernel_rfl) (OpnF.cons oStr rfl (OpnF.cons oStr rfl (OpnF.nil _)))
  refine h0.as (fun z => ((z.1, z.2.1) : F)) (fun _ => rfl) (fun _ _ => trivial) ?_
  rintro z _
  show z.1.length + z.2.1.length ≤ z.1.length + (z.2.1.length + 0)
  omega
theorem oFs : Opn Tryd.prog 22 1 (fun z : SV × List F => [z.1]) (fun z => rdR fC z.1 z.2 ∧ (∀ y ∈ z.2, True ∧ (fC y).length = 2) ∧ z.2.length ≤ maxLen) (fun z => (z.2.map bulkF).sum + z.2.length) :=
  Opn.slice oF Tryd.underlying22 (by kernel_rfl) (by decide)
theorem iC_flat (l : List Int) : l.flatMap iC = isv l := by
  induction l with
  | nil => rfl
  | cons x l ih => rw [List.flatMap_cons, ih]; rfl
theorem ints_row {v : SV} {l : List Int} (h : rdR iC v l) (st : List Ob) : RowI st v l := by
  have := rdR_row h (m := 1) (fun _ _ => rfl) st
  rwa [iC_flat] at this
theorem sum_le {α : Type} {f : α → Nat} {l : List α} {x : α} (h : x ∈ l) : f x ≤ (l.map f).sum := by
  induction l with
  | nil => cases h
  | cons y l ih =>
    rcases List.mem_cons.1 h with rfl | h
    · simp
    · have := ih h; simp only [List.map_cons, List.sum_cons]; omega
theorem smT_bulk {t : List F} (h : (t.map bulkF).sum + t.length ≤ 1048576) : smT t := by
  refine ⟨by omega, fun f hf => ?_⟩
  have h1 := sum_le (f := bulkF) hf
  have h2 : f.1.length + f.2.length ≤ 1048576 := by
    show bulkF f ≤ _
    omega
  unfold sm
  omega
theorem smb {s : List UInt8} (h : s.length ≤ 1048576) : sm s := by unfold sm; omega
end Go.Sh.F
