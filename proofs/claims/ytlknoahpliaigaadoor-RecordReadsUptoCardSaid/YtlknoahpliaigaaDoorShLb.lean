/-
  The shadow machine, part Lb: contracts of functions that leave the objects alone; functions that are walked by the kit's laws; rows of strings.
-/
import Derived.Test.YtlknoahpliaigaaDoorShTl
set_option linter.unusedSimpArgs false
set_option linter.unusedVariables false
namespace Go.Sh
open Go.RowKit
def FnC (p : List SV → SV → Prop) : List SV → List Ob → SV → List Ob → Prop := fun args st r st' => st' = st ∧ p args r
theorem Sound.addP {P : Program} {O : Orc} (hS : Sound P O) {f : FuncId} {sf : SF} {p : List SV → SV → Prop} (hf : cFunc P f = some sf) (hp : plainB P f = true)
    (h : ∀ args r, p args r → args.length ≤ sf.nt ∧ ∀ st, swpF O sf args st fun r' st' => r' = r ∧ st' = st) : Sound P (O.add f (FnC p)) :=
  hS.add hf hp (by rintro args st r st' ⟨rfl, h1⟩; exact ⟨(h args r h1).1, (h args r h1).2 _⟩)
theorem Sound.addR {P : Program} {O : Orc} (hS : Sound P O) {f : FuncId} {C : List SV → List Ob → SV → List Ob → Prop} (h : ∀ args st r st', C args st r st' → RealC P f args st r st') : Sound P (O.add f C) := by
  intro g args st r st' hO
  rcases hO with hO | ⟨rfl, hC⟩
  · exact hS g args st r st' hO
  · exact h args st r st' hC
theorem real_of {P : Program} {f : FuncId} {args : List SV} {st : List Ob} {r : SV} (hp : plainB P f = true)
    (h : ∀ g w (vs : List Value), Inv g w st → (vs.length = args.length ∧ ∀ i (h : i < vs.length) (h' : i < args.length), V g w none (vs[i]'h) (args[i]'h')) →
      Calls P f vs.toArray w fun e w' => ∃ rv g', e = .returned rv ∧ Below w.heap.size w w' ∧ (∀ b, b < w.heap.size → g'.mark b = g.mark b) ∧ g'.ow = g.ow ∧ g'.ρ = g.ρ ∧ V g' w' retO rv r) : RealC P f args st r st := by
  refine ⟨plain_of hp, fun g w vs hcl hI hv => ?_⟩
  refine (h g w vs hI hv).mono ?_
  rintro e w' ⟨rv, g', he, hB, hm, ho, hρ, hr⟩
  have k : KeepAll g w g' w' := fun b hb => ⟨by rw [ho], hm b hb, hB.block b hb⟩
  have st' : St g w g' w' := k.st hB.os hB.tape hB.output hB.size (fun _ _ h => by rw [hρ]; exact h)
  refine ⟨rv, g', he, hI.mono st' hρ (fun id b hi => k b (hI.obj id b hi).1) (fun id i => k.root _), hr, k.fr st', fun b q hq t => ?_⟩
  rw [ho] at hq
  exact (hcl b q hq).1 t
def strV (l : List UInt8) : Value := .string ⟨l.toArray⟩
theorem str_val {g : Gh} {w : World} {o : Option Owner} {v : Value} {l : List UInt8} (h : V g w o v (.str l)) : v = strV l := by
  obtain ⟨s, rfl, rfl⟩ := h.str_inv
  rfl
def ssv (l : List (List UInt8)) : List SV := l.map .str
theorem ssv_len (l : List (List UInt8)) : (ssv l).length = l.length := by simp [ssv]
theorem ssv_at (l : List (List UInt8)) (i : Nat) (x : List UInt8) (h : l[i]? = some x) : (ssv l)[i]? = some (.str x) := by simp [ssv, h]
def rdS (v : SV) (l : List (List UInt8)) : Prop := (v = .nilS ∧ l = []) ∨ v = .sl (ssv l) l.length .ro
theorem rdS_facts {v : SV} {l : List (List UInt8)} (h : rdS v l) : ro v = v ∧ got v = v ∧ exc v = false ∧ flg v = false ∧ ∀ st, ev st .lenL [v] = some (.int .i64 l.length, [], st) := by
  rcases h with ⟨rfl, rfl⟩ | rfl
  · exact ⟨rfl, rfl, rfl, rfl, fun _ => ev_lenN⟩
  · exact ⟨rfl, rfl, rfl, rfl, fun _ => ev_lenL⟩
def rowV (l : List (List UInt8)) : SV := if l = [] then .nilS else .sl (ssv l) l.length (.excl 1)
theorem rowV_app (l : List (List UInt8)) (x : List UInt8) : rowV (l ++ [x]) = .sl (ssv l ++ [.str x]) (l.length + 1) (.excl 1) := by
  unfold rowV
  rw [if_neg (by simp)]
  simp [ssv]
theorem rowV_nil : rowV [] = .nilS := rfl
theorem rowV_ne {l : List (List UInt8)} (h : l ≠ []) : rowV l = .sl (ssv l) l.length (.excl 1) := if_neg h
end Go.Sh
