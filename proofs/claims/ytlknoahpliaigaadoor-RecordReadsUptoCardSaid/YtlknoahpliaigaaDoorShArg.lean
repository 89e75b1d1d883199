/-
  The shadow machine, part Arg: a law's arguments, as they come in, read as pure values.
-/
import Derived.Test.YtlknoahpliaigaaDoorShS
import Derived.SliceStrings
import Derived.ChangeMaps5
import Derived.OpenShut
set_option linter.unusedSimpArgs false
set_option linter.unusedVariables false
namespace Go.Sh
open Go.ChangeShapes Go.WideShapes
section
variable {H : Type} {enc : TypeId × Value → H} {P : Program} {w : World} {base : Nat} {held : Bool} {r : Reach} {b0 : Nat} {t e : TypeId} {v : Value} {d : DataW H} {ps : List MemPlace}
theorem add_none {a : Addr} (h : a.spot = none) (i : Nat) : a.add i = ⟨a.block, a.off + i, none⟩ := by
  obtain ⟨b, off, spot⟩ := a
  simp only at h
  subst h
  simp [Addr.add]
end
end Go.Sh
