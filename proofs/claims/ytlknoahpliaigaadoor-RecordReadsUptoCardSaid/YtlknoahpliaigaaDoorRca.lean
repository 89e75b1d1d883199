/-
  Arguments: cursors, pieces, manifests, rows of them, read as pure values.
-/
import Derived.Test.YtlknoahpliaigaaDoorGrM
import Derived.Test.YtlknoahpliaigaaDoorShIn
set_option linter.unusedSimpArgs false
set_option linter.unusedVariables false
namespace Go.Sh.F
open Go.PathLaw Go.Proofs
theorem tr_of {O : Orc} {sf : SF} {args : List SV} {st : List Ob} (h : swpF O sf args st (fun r st' => r = .bool true ∧ st' = st)) : swpF O sf args st (fun r _ => r = .bool true) := by
  rw [swpF_eq] at h ⊢
  refine swp_mono (fun e s hq => ?_) h
  cases e with
  | exit _ => exact hq
  | goto _ => exact hq
  | _ => obtain ⟨r, st', a, b, c⟩ := hq; exact ⟨r, st', a, b, c.1⟩
abbrev iC (z : Int) : List SV := [.int .i64 z]
def Pc.gd (p : Pc) : Prop := rdR iC p.cv p.ch
def Pc.bulk (p : Pc) : Nat := p.path.length + p.ch.length
def Mf.gd (m : Mf) : Prop := rdR Pc.cells m.pv m.ps ∧ (∀ p ∈ m.ps, p.gd) ∧ m.fit
def Mf.bulk (m : Mf) : Nat := (m.ps.map Pc.bulk).sum + m.ps.length
theorem iC_flat (l : List Int) : l.flatMap iC = isv l := by
  induction l with
  | nil => rfl
  | cons x l ih => rw [List.flatMap_cons, ih]; rfl
theorem ints_row {v : SV} {l : List Int} (h : rdR iC v l) (st : List Ob) : RowI st v l := by
  have := rdR_row h (m := 1) (fun _ _ => rfl) st
  rwa [iC_flat] at this
theorem Pc.gd.ok {p : Pc} (h : p.gd) (hb : p.bulk ≤ 1048576) (st : List Ob) : p.ok st := by
  unfold Pc.bulk at hb
  exact ⟨ints_row h st, by omega, by unfold sm; omega⟩
theorem sum_le {α : Type} {f : α → Nat} {l : List α} {x : α} (h : x ∈ l) : f x ≤ (l.map f).sum := by
  induction l with
  | nil => cases h
  | cons y l ih =>
    rcases List.mem_cons.1 h with rfl | h
    · simp
    · have := ih h; simp only [List.map_cons, List.sum_cons]; omega
theorem Mf.gd.ok {m : Mf} (h : m.gd) (hb : m.bulk ≤ 1048576) (st : List Ob) : m.ok st := by
  unfold Mf.bulk at hb
  exact ⟨rdR_row h.1 (fun _ _ => rfl) st, by omega, fun p hp => (h.2.1 p hp).ok (by have := sum_le (f := Pc.bulk) hp; omega) st⟩
end Go.Sh.F
