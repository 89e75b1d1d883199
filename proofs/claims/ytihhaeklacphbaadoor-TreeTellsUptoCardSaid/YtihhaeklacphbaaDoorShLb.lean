/-
  The shadow machine, part Lb: contracts of functions that leave the objects alone; functions that are walked by the kit's laws; rows of strings.
-/
import Derived.Test.YtihhaeklacphbaaDoorShTl
set_option linter.unusedSimpArgs false
set_option linter.unusedVariables false
namespace Go.Sh
open Go.RowKit

/-- A contract that speaks of values alone. -/
def FnC (p : List SV → SV → Prop) : List SV → List Ob → SV → List Ob → Prop := fun args st r st' => st' = st ∧ p args r

theorem Sound.addP {P : Program} {O : Orc} (hS : Sound P O) {f : FuncId} {sf : SF} {p : List SV → SV → Prop} (hf : cFunc P f = some sf) (hp : plainB P f = true)
    (h : ∀ args r, p args r → args.length ≤ sf.nt ∧ ∀ st, swpF O sf args st fun r' st' => r' = r ∧ st' = st) : Sound P (O.add f (FnC p)) :=
  hS.add hf hp (by rintro args st r st' ⟨rfl, h1⟩; exact ⟨(h args r h1).1, (h args r h1).2 _⟩)

theorem Sound.addR {P : Program} {O : Orc} (hS : Sound P O) {f : FuncId} {C : List SV → List Ob → SV → List Ob → Prop} (h : ∀ args st r st', C args st r st' → RealC P f args st r st') : Sound P (O.add f C) := by
  intro g args st r st' hO
  rcases hO with hO | ⟨rfl, hC⟩
  · exact hS g args st r st' hO
  · exact ⟨fun _ => h args st r st' hC, fun hx => absurd hx (Nat.not_le.2 (h args st r st' hC).1.lt)⟩

theorem Sound.addX {P : Program} {O : Orc} (hS : Sound P O) {f : FuncId} {C : List SV → List Ob → SV → List Ob → Prop} (h : ∀ args st r st', C args st r st' → RealX P f args st r st') : Sound P (O.add (XB + f) C) := by
  intro g args st r st' hO
  rcases hO with hO | ⟨rfl, hC⟩
  · exact hS g args st r st' hO
  · refine ⟨fun hx => absurd hx (Nat.not_lt.2 (Nat.le_add_right _ _)), fun _ => ?_⟩
    rw [Nat.add_sub_cancel_left]
    exact h args st r st' hC

theorem Orc.here {O : Orc} {f : FuncId} {p : List SV → SV → Prop} {args : List SV} {r : SV} {st : List Ob} (h : p args r) : (O.add f (FnC p)) f args st r st := .inr ⟨rfl, rfl, h⟩

/-- A function that only makes blocks of its own. -/
theorem real_of {P : Program} {f : FuncId} {args : List SV} {st : List Ob} {r : SV} (hp : plainB P f = true)
    (h : ∀ g w (vs : List Value), Inv g w st → (vs.length = args.length ∧ ∀ i (h : i < vs.length) (h' : i < args.length), V g w none (vs[i]'h) (args[i]'h')) →
      Calls P f vs.toArray w fun e w' => ∃ rv g', e = .returned rv ∧ Below w.heap.size w w' ∧ (∀ b, b < w.heap.size → g'.mark b = g.mark b) ∧ g'.ow = g.ow ∧ g'.ρ = g.ρ ∧ V g' w' retO rv r) : RealC P f args st r st := by
  refine ⟨plain_of hp, fun g w vs hcl hI hv => ?_⟩
  refine (h g w vs hI hv).mono ?_
  rintro e w' ⟨rv, g', he, hB, hm, ho, hρ, hr⟩
  have k : KeepAll g w g' w' := fun b hb => ⟨by rw [ho], hm b hb, hB.block b hb⟩
  have st' : St g w g' w' := k.st hB.os hB.tape hB.output hB.size (fun _ _ h => by rw [hρ]; exact h)
  refine ⟨rv, g', he, hI.mono st' hρ (fun id b hi => k b (hI.obj id b hi).1) (fun id i => k.root _), hr, k.fr st', fun b q hq t => ?_⟩
  rw [ho] at hq
  exact (hcl b q hq).1 t

def strV (l : List UInt8) : Value := .string ⟨l.toArray⟩
/-- Strings in memory. -/
def StrsAt (w : World) (p : Option Addr) (cap : Nat) (xs : List (List UInt8)) : Prop :=
  xs.length ≤ cap ∧ (xs ≠ [] → ∃ b off, p = some ⟨b, off, none⟩ ∧ b < w.heap.size ∧ ∀ j (hj : j < xs.length), w.cell? ⟨b, off + j, none⟩ = some (strV xs[j]))

/-- Strings as an argument. -/
def isStrs (st : List Ob) (v : SV) (l : List (List UInt8)) : Prop :=
  (v = .nilS ∧ l = []) ∨ (∃ fl, v = .sl (l.map .str) l.length fl) ∨ ∃ id off, v = .slo id off l.length ∧ rdCells st id off l.length = some (l.map .str)

theorem str_val {g : Gh} {w : World} {o : Option Owner} {v : Value} {l : List UInt8} (h : V g w o v (.str l)) : v = strV l := by
  obtain ⟨s, rfl, rfl⟩ := h.str_inv
  rfl

theorem strs_of {g : Gh} {w : World} {st : List Ob} {val : Value} {v : SV} {l : List (List UInt8)} (hI : Inv g w st) (hv : V g w none val v) (h : isStrs st v l) : ∃ p cap, val = .slice p l.length cap ∧ StrsAt w p cap l := by
  rcases h with ⟨rfl, rfl⟩ | ⟨fl, rfl⟩ | ⟨id, off, rfl, hr⟩
  · cases hv
    exact ⟨none, 0, rfl, Nat.le_refl _, fun h => absurd rfl h⟩
  · generalize hxs : l.map SV.str = xs at hv
    generalize hn : l.length = n at hv ⊢
    cases hv with
    | slz _ ad _ _ =>
      have hl0 : l = [] := List.eq_nil_of_length_eq_zero hn
      subst hl0
      exact ⟨some ad, 0, rfl, Nat.le_refl _, fun h => absurd rfl h⟩
    | sl _ b off _ cap _ _ f hlen hcell hone hx hf =>
      subst hn
      refine ⟨_, cap, rfl, hlen, fun h0 => ?_⟩
      have h0' : 0 < l.length := List.length_pos_iff.2 h0
      refine ⟨b, off, rfl, lt_of_cell (hcell 0 (by rw [← hxs]; simpa using h0')), fun j hj => ?_⟩
      have hj' : j < xs.length := by rw [← hxs]; simpa using hj
      rw [hcell j hj']
      have := hx j hj'
      simp only [← hxs, List.getElem_map] at this
      rw [str_val this]
  · cases hv with
    | slo _ _ _ _ b cap hlen hρ =>
      obtain ⟨h1, h2⟩ := ob_cells hI hρ hr
      refine ⟨_, cap, rfl, hlen, fun h0 => ⟨b, off, rfl, (hI.obj id b hρ).1, fun j hj => ?_⟩⟩
      obtain ⟨u, hu, _, hV⟩ := h2 j (by simpa using hj)
      simp only [List.getElem_map] at hV
      rw [hu, str_val hV]

/-! Rows of strings. -/
def ssv (l : List (List UInt8)) : List SV := l.map .str
theorem ssv_len (l : List (List UInt8)) : (ssv l).length = l.length := by simp [ssv]
theorem ssv_take (l : List (List UInt8)) (n : Nat) : (ssv l).take n = ssv (l.take n) := by simp [ssv, List.map_take]
theorem ssv_drop (l : List (List UInt8)) (n : Nat) : (ssv l).drop n = ssv (l.drop n) := by simp [ssv, List.map_drop]
theorem ssv_app (l m : List (List UInt8)) : ssv l ++ ssv m = ssv (l ++ m) := by simp [ssv]
theorem ssv_at (l : List (List UInt8)) (i : Nat) (x : List UInt8) (h : l[i]? = some x) : (ssv l)[i]? = some (.str x) := by simp [ssv, h]
def rdS (v : SV) (l : List (List UInt8)) : Prop := (v = .nilS ∧ l = []) ∨ v = .sl (ssv l) l.length .ro
theorem rdS_facts {v : SV} {l : List (List UInt8)} (h : rdS v l) : ro v = v ∧ got v = v ∧ exc v = false ∧ flg v = false ∧ ∀ st, ev st .lenL [v] = some (.int .i64 l.length, [], st) := by
  rcases h with ⟨rfl, rfl⟩ | rfl
  · exact ⟨rfl, rfl, rfl, rfl, fun _ => ev_lenN⟩
  · exact ⟨rfl, rfl, rfl, rfl, fun _ => ev_lenL⟩
theorem isStrs_of {st : List Ob} {v : SV} {l : List (List UInt8)} (h : rdS v l) : isStrs st v l := by
  rcases h with h | rfl
  · exact .inl h
  · exact .inr (.inl ⟨.ro, rfl⟩)
theorem rdS_at {v : SV} {l : List (List UInt8)} (h : rdS v l) {i : Nat} (hi : i < l.length) : v = .sl (ssv l) l.length .ro := by
  rcases h with ⟨_, rfl⟩ | h
  · simp at hi
  · exact h
/-- A row that is made by appending. -/
def rowV (l : List (List UInt8)) : SV := if l = [] then .nilS else .sl (ssv l) l.length (.excl 1)
theorem rowV_app (l : List (List UInt8)) (x : List UInt8) : rowV (l ++ [x]) = .sl (ssv l ++ [.str x]) (l.length + 1) (.excl 1) := by
  unfold rowV
  rw [if_neg (by simp)]
  simp [ssv]
theorem rowV_nil : rowV [] = .nilS := rfl
theorem rowV_ne {l : List (List UInt8)} (h : l ≠ []) : rowV l = .sl (ssv l) l.length (.excl 1) := if_neg h
theorem rowV_got (l : List (List UInt8)) : rdS (got (rowV l)) l := by
  unfold rowV
  split
  · rename_i h; exact .inl ⟨rfl, h⟩
  · exact .inr rfl
theorem app_rdS {v : SV} {l : List (List UInt8)} {xs z : List SV} {n : Nat} (hv : rdS v l) (hx : xs.length = n) (hb : n + l.length ≤ 1048576000) (st : List Ob) :
    ev st (.app 1 16 z) [.sl xs n (.excl 1), v] = some (.sl (xs ++ ssv l) (n + l.length) (.excl 1), [(0, .undef)], st) := by
  rcases hv with ⟨rfl, rfl⟩ | rfl
  · rw [app_excl_nil (by omega) (by simp at hb; omega) (by simp at hb; omega)]; simp [ssv]
  · rw [app_excl (by omega) (by rw [ssv_len]; omega) (by omega) (by omega)]
end Go.Sh
