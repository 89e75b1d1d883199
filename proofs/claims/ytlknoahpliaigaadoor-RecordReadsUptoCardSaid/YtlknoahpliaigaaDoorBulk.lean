/-
  What the bound of a statement of the second form gives.
-/
import Derived.Test.YtlknoahpliaigaaDoorRows
namespace Go.Proofs.YtlknoahpliaigaaDoor.bulks
theorem string_eq {H : Type} (bytes : List UInt8) : Rows.uptoBulk (DataW.lit (H := H) (.string bytes)) = bytes.length + 1 := by
  simp [Rows.uptoBulk]
theorem bound {H : Type} {l : List (DataW H)} (hk : Rows.uptoSmall H l = true) : Rows.uptoBulkAll l ≤ 1048576 := of_decide_eq_true hk
end Go.Proofs.YtlknoahpliaigaaDoor.bulks
