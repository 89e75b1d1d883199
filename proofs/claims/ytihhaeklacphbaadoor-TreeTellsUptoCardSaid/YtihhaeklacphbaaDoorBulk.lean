/-
  What the bound of a statement of the second form gives.
-/
import Derived.Test.YtihhaeklacphbaaDoorRows
namespace Go.Proofs.YtihhaeklacphbaaDoor.bulks

theorem one_le {H : Type} (d : DataW H) : 1 ≤ Rows.uptoBulk d := by
  cases d with
  | lit l => cases l <;> simp [Rows.uptoBulk]
  | nil => simp [Rows.uptoBulk]
  | ptr d => simp [Rows.uptoBulk]
  | slice elems spare => simp [Rows.uptoBulk]
  | agg parts => simp [Rows.uptoBulk]
  | iface t d => simp [Rows.uptoBulk]
  | map entries => simp [Rows.uptoBulk]
  | held h => simp [Rows.uptoBulk]

theorem length_le {H : Type} (l : List (DataW H)) : l.length ≤ Rows.uptoBulkAll l := by
  induction l with
  | nil => simp [Rows.uptoBulkAll]
  | cons x r ih => have := one_le x; simp only [Rows.uptoBulkAll, List.length_cons]; omega

theorem string_eq {H : Type} (bytes : List UInt8) : Rows.uptoBulk (DataW.lit (H := H) (.string bytes)) = bytes.length + 1 := by
  simp [Rows.uptoBulk]

theorem bound {H : Type} {l : List (DataW H)} (hk : Rows.uptoSmall H l = true) : Rows.uptoBulkAll l ≤ 1048576 := of_decide_eq_true hk

theorem row_len {H : Type} {α : Type} {f : α → DataW H} {l : List α} {d : DataW H} (h : (d = .nil ∧ l = []) ∨ ∃ sp, d = .slice (l.map f) sp) : l.length ≤ Rows.uptoBulk d := by
  rcases h with ⟨rfl, rfl⟩ | ⟨sp, rfl⟩
  · simp
  · have := length_le (l.map f)
    rw [List.length_map] at this
    simp only [Rows.uptoBulk]
    omega

theorem strs_len {H : Type} {l : List (List UInt8)} {d : DataW H} (h : (d = .nil ∧ l = []) ∨ ∃ sp, d = .slice (l.map fun s => .lit (.string s)) sp) : l.length ≤ Rows.uptoBulk d := row_len h

theorem strs_sum {H : Type} {l : List (List UInt8)} {d : DataW H} (h : (d = .nil ∧ l = []) ∨ ∃ sp, d = .slice (l.map fun s => .lit (.string s)) sp) : (l.map List.length).sum ≤ Rows.uptoBulk d := by
  have key : ∀ l : List (List UInt8), (l.map List.length).sum ≤ Rows.uptoBulkAll (l.map fun s => DataW.lit (H := H) (.string s)) := by
    intro l
    induction l with
    | nil => simp
    | cons a l ih =>
      simp only [List.map_cons, List.sum_cons, Rows.uptoBulkAll, string_eq]
      omega
  rcases h with ⟨rfl, rfl⟩ | ⟨sp, rfl⟩
  · simp
  · have := key l
    simp only [Rows.uptoBulk]
    omega

end Go.Proofs.YtihhaeklacphbaaDoor.bulks
