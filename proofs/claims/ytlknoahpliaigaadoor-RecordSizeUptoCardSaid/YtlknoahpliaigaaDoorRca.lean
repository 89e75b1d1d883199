/-
  Arguments: cursors, pieces, manifests, rows of them, read as pure values.
-/
import Derived.Test.YtlknoahpliaigaaDoorGrM
import Derived.Test.YtlknoahpliaigaaDoorShIn
set_option linter.unusedSimpArgs false
set_option linter.unusedVariables false
namespace Go.Sh.F
open Go.PathLaw Go.Proofs
theorem tr_of {O : Orc} {sf : SF} {args : List SV} {st : List Ob} (h : swpF O sf args st (fun r st' => r = .bool true ∧ st' = st)) : swpF O sf args st (fun r _ => r = .bool true) := by
  rw [swpF_eq] at h ⊢
  refine swp_mono (fun e s hq => ?_) h
  cases e with
  | exit _ => exact hq
  | goto _ => exact hq
  | _ => obtain ⟨r, st', a, b, c⟩ := hq; exact ⟨r, st', a, b, c.1⟩
abbrev iC (z : Int) : List SV := [.int .i64 z]
abbrev iG (z : Int) : Prop := (Lit.int .i64 z).wf = true
theorem iG_le {z : Int} (h : iG z) : -9223372036854775808 ≤ z ∧ z ≤ 9223372036854775807 := by
  simpa [iG, Lit.wf, IntKind.min, IntKind.max, IntKind.signed, IntKind.bits] using h
theorem oInt : Opn Tryd.prog 3 1 iC iG (fun _ => 0) := Opn.int Tryd.underlying3 (by kernel_rfl)
theorem oStr : Opn Tryd.prog 9 1 (fun z : List UInt8 => [.str z]) (fun _ => True) (fun z => z.length) := Opn.str Tryd.underlying9 (by kernel_rfl)
theorem oBool : Opn Tryd.prog 4 1 (fun z : Bool => [.bool z]) (fun _ => True) (fun _ => 0) := Opn.bool Tryd.underlying4 (by kernel_rfl)
theorem oInts : Opn Tryd.prog 30 1 (fun z : SV × List Int => [z.1]) (fun z => rdR iC z.1 z.2 ∧ (∀ y ∈ z.2, iG y ∧ (iC y).length = 1) ∧ z.2.length ≤ maxLen) (fun z => (z.2.map fun _ => 0).sum + z.2.length) :=
  Opn.slice oInt Tryd.underlying30 (by kernel_rfl) (by decide)
theorem oPair : Opn Tryd.prog 33 2 (fun z : Int × Int => [.int .i64 z.1, .int .i64 z.2]) (fun _ => True) (fun _ => 0) :=
  have h0 := Opn.struct Tryd.underlying33 (by kernel_rfl) (OpnF.cons oInt rfl (OpnF.cons oInt rfl (OpnF.nil _)))
  h0.as (fun z => (z.1, z.2.1)) (fun _ => rfl) (fun _ _ => trivial) (fun _ _ => Nat.zero_le _)
def Pc.gd (p : Pc) : Prop := rdR iC p.cv p.ch
def Pc.bulk (p : Pc) : Nat := p.path.length + p.ch.length
theorem oPc : Opn Tryd.prog 35 7 Pc.cells Pc.gd Pc.bulk := by
  have h0 := Opn.struct Tryd.underlying35 (by kernel_rfl) (OpnF.cons oStr rfl (OpnF.cons oBool rfl (OpnF.cons oInt rfl (OpnF.cons oInts rfl (OpnF.cons oInt rfl (OpnF.cons oPair rfl (OpnF.nil _)))))))
  refine h0.as (fun z => (⟨z.1, z.2.1, z.2.2.1, z.2.2.2.1.1, z.2.2.2.1.2, z.2.2.2.2.1, z.2.2.2.2.2.1.1, z.2.2.2.2.2.1.2⟩ : Pc)) (fun _ => rfl) ?_ ?_
  · rintro z ⟨h1, h2, h3, h4, _⟩
    exact h4.1
  · rintro z _
    show z.1.length + z.2.2.2.1.2.length ≤ z.1.length + (0 + (0 + ((z.2.2.2.1.2.map fun _ => 0).sum + z.2.2.2.1.2.length + (0 + (0 + 0)))))
    omega
def Mf.gd (m : Mf) : Prop := rdR Pc.cells m.pv m.ps ∧ (∀ p ∈ m.ps, p.gd) ∧ m.fit
def Mf.bulk (m : Mf) : Nat := (m.ps.map Pc.bulk).sum + m.ps.length
theorem oPcs : Opn Tryd.prog 22 1 (fun z : SV × List Pc => [z.1]) (fun z => rdR Pc.cells z.1 z.2 ∧ (∀ y ∈ z.2, y.gd ∧ (Pc.cells y).length = 7) ∧ z.2.length ≤ maxLen) (fun z => (z.2.map Pc.bulk).sum + z.2.length) :=
  Opn.slice oPc Tryd.underlying22 (by kernel_rfl) (by decide)
theorem oMf : Opn Tryd.prog 24 8 Mf.cells Mf.gd Mf.bulk := by
  have h0 := Opn.struct Tryd.underlying24 (by kernel_rfl) (OpnF.cons oInt rfl (OpnF.cons oInt rfl (OpnF.cons oInt rfl (OpnF.cons oInt rfl (OpnF.cons oInt rfl (OpnF.cons oInt rfl (OpnF.cons oInt rfl (OpnF.cons oPcs rfl (OpnF.nil _)))))))))
  refine h0.as (fun z => (⟨z.1, z.2.1, z.2.2.1, z.2.2.2.1, z.2.2.2.2.1, z.2.2.2.2.2.1, z.2.2.2.2.2.2.1, z.2.2.2.2.2.2.2.1.1, z.2.2.2.2.2.2.2.1.2⟩ : Mf)) (fun _ => rfl) ?_ ?_
  · rintro z ⟨h1, h2, h3, h4, h5, h6, h7, h8, _⟩
    exact ⟨h8.1, fun p hp => (h8.2.1 p hp).1, iG_le h2⟩
  · rintro z _
    simp only [Mf.bulk]
    omega
theorem iC_flat (l : List Int) : l.flatMap iC = isv l := by
  induction l with
  | nil => rfl
  | cons x l ih => rw [List.flatMap_cons, ih]; rfl
theorem ints_row {v : SV} {l : List Int} (h : rdR iC v l) (st : List Ob) : RowI st v l := by
  have := rdR_row h (m := 1) (fun _ _ => rfl) st
  rwa [iC_flat] at this
theorem Pc.gd.ok {p : Pc} (h : p.gd) (hb : p.bulk ≤ 1048576) (st : List Ob) : p.ok st := by
  unfold Pc.bulk at hb
  exact ⟨ints_row h st, by omega, by unfold sm; omega⟩
theorem sum_le {α : Type} {f : α → Nat} {l : List α} {x : α} (h : x ∈ l) : f x ≤ (l.map f).sum := by
  induction l with
  | nil => cases h
  | cons y l ih =>
    rcases List.mem_cons.1 h with rfl | h
    · simp
    · have := ih h; simp only [List.map_cons, List.sum_cons]; omega
theorem Mf.gd.ok {m : Mf} (h : m.gd) (hb : m.bulk ≤ 1048576) (st : List Ob) : m.ok st := by
  unfold Mf.bulk at hb
  exact ⟨rdR_row h.1 (fun _ _ => rfl) st, by omega, fun p hp => (h.2.1 p hp).ok (by have := sum_le (f := Pc.bulk) hp; omega) st⟩
end Go.Sh.F
