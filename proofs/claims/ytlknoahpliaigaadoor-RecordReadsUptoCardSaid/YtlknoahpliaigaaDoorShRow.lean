/-
  The shadow machine, part Row: a law's arguments that are rows of arrays, of structs, whose cells are plain.
-/
import Derived.Test.YtlknoahpliaigaaDoorShArg
import Derived.Laws.IdiomArrays
import Derived.ChangeArms
set_option linter.unusedSimpArgs false
set_option linter.unusedVariables false
namespace Go.Sh
open Go.ChangeShapes Go.WideShapes
theorem choose_list {α : Type} {n : Nat} {R : Nat → α → Prop} (h : ∀ i, i < n → ∃ z, R i z) : ∃ zs : List α, zs.length = n ∧ ∀ i z, zs[i]? = some z → R i z := by
  refine ⟨List.ofFn fun i : Fin n => Classical.choose (h i i.2), by simp, fun i z hz => ?_⟩
  rw [List.getElem?_ofFn] at hz
  split at hz
  · rename_i hi
    injection hz with hz
    rw [← hz]
    exact Classical.choose_spec (h i hi)
  · cases hz
section
variable {H : Type} {enc : TypeId × Value → H} {P : Program} {w : World} {base : Nat} {held : Bool} {r : Reach} {b0 : Nat} {t e : TypeId} {v : Value} {d : DataW H} {ps : List MemPlace}
end
end Go.Sh
