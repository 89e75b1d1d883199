/-
  The shadow machine, part S: from the shadow's word on a law to what the model says of its call.
-/
import Derived.Test.YtihhaeklacphbaaDoorShZ
import Derived.Below
set_option linter.unusedSimpArgs false
set_option linter.unusedVariables false
namespace Go.Sh

/-- Nothing is known but that what came in stays as it is. -/
def g0 (N : Nat) : Gh := { mark := fun _ => N, ow := fun _ => none, ρ := [] }

theorem law_ok {P : Program} {O : Orc} (hS : Sound P O) {f : FuncId} {sf : SF} (hf : cFunc P f = some sf) {args : List SV} (hq : swpF O sf args [] (fun r _ => r = .bool true)) (hle : args.length ≤ sf.nt) {N : Nat} {w : World} {vs : List Value}
    (hv : vs.length = args.length ∧ ∀ i (h : i < vs.length) (h' : i < args.length), V (g0 N) w none (vs[i]'h) (args[i]'h')) :
    Calls P f vs.toArray w fun e w' => e = .returned (.bool true) ∧ RowKit.Below w.heap.size w w' := by
  have hcl : Clean (g0 N) := by intro b q h; cases h
  have hI : Inv (g0 N) w [] := ⟨rfl, by intro id b h; simp [g0] at h, by intro id b l h; simp [g0] at h, by intro id b l h; simp [g0] at h⟩
  refine (func_ok hS hf hq hcl hI hv hle).mono ?_
  rintro e w' ⟨r, st', rv, g', rfl, rfl, _, hV, hF, _⟩
  refine ⟨by rw [hV.bool_inv], ?_⟩
  have key : ∀ b, b < w.heap.size → w'.heap[b]? = w.heap[b]? := fun b hb => (hF.out b hb (by rintro ⟨q, h, _⟩; cases h)).heap
  exact ⟨hF.st.os, hF.st.tape, hF.st.output, hF.st.size, key⟩

/-! Forgetting, slot by slot. -/
def fg : List SV → List SV → Prop
  | [], [] => True
  | a :: as, b :: bs => (b = a ∨ b = .undef) ∧ fg as bs
  | _, _ => False

theorem fg_spec : ∀ {as bs : List SV}, fg as bs → bs.length = as.length ∧ ∀ t, bs.getD t .undef = as.getD t .undef ∨ bs.getD t .undef = .undef
  | [], [], _ => ⟨rfl, fun _ => .inl rfl⟩
  | a :: as, b :: bs, h => by
    obtain ⟨h1, h2⟩ := fg_spec h.2
    refine ⟨by simp [h1], fun t => ?_⟩
    cases t with
    | zero => simpa using h.1
    | succ t => simpa using h2 t
  | [], _ :: _, h => h.elim
  | _ :: _, [], h => h.elim

theorem Forget.of {k : Nat} {as bs : List SV} {st : List Ob} (h : fg as bs) : Forget k ⟨as, st⟩ ⟨bs, st⟩ := ⟨fg_spec h, .same⟩
theorem fg_nil : fg [] [] = True := _root_.id rfl
theorem fg_keep {a : SV} {as bs : List SV} : fg (a :: as) (a :: bs) = fg as bs := by show ((a = a ∨ _) ∧ _) = _; simp
theorem fg_drop {a : SV} {as bs : List SV} : fg (a :: as) (.undef :: bs) = fg as bs := by show ((_ ∨ SV.undef = .undef) ∧ _) = _; simp

theorem Forget.cut {k : Nat} {xs bs : List SV} {st st' : List Ob} (h : fg xs bs) (h1 : k ≤ st'.length) (h2 : st' = st.take st'.length) (h3 : idOks st'.length bs = true) (h4 : st'.all (obOk st'.length) = true) : Forget k ⟨xs, st⟩ ⟨bs, st'⟩ := ⟨fg_spec h, .inr ⟨h1, h2, h3, h4⟩⟩

end Go.Sh
