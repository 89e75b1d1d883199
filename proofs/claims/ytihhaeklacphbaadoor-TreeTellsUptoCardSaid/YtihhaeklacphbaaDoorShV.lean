/-
  The shadow machine, part V: the last objects may be dropped.
-/
import Derived.Test.YtihhaeklacphbaaDoorShE
set_option linter.unusedSimpArgs false
set_option linter.unusedVariables false
namespace Go.Sh

def cutφ (k : Nat) : Owner → Owner := fun q => match q.root with
  | .cell id _ => if id < k then q else ⟨.outer, q.path⟩
  | .obj id => if id < k then q else ⟨.outer, q.path⟩
  | _ => q

def Gh.cut (g : Gh) (k : Nat) : Gh := { g with ρ := g.ρ.take k }
def Gh.trim (g : Gh) (k : Nat) : Gh := (g.re (cutφ k)).cut k

theorem Gro.cut {w : World} {b cap es : Nat} (h : Gro w b cap es) : Gro w b cap es := h

theorem idOks_get {k : Nat} : ∀ {xs : List SV}, idOks k xs = true → ∀ i (h : i < xs.length), idOk k (xs[i]'h) = true
  | [], _, i, h => by simp at h
  | x :: xs, hk, i, h => by
    simp only [idOks, Bool.and_eq_true] at hk
    cases i with
    | zero => exact hk.1
    | succ i => exact idOks_get hk.2 i (by simpa using h)

theorem V.cut {g : Gh} {w : World} {o : Option Owner} {v : Value} {sv : SV} (h : V g w o v sv) (k : Nat) : idOk k sv = true → V (g.cut k) w o v sv := by
  induction h with
  | undef o v => exact fun _ => .undef o v
  | bool o b => exact fun _ => .bool o b
  | int o k n => exact fun _ => .int o k n
  | str o s => exact fun _ => .str o s
  | nilS o => exact fun _ => .nilS o
  | sl o b off len cap xs fl f hlen hcell hone hx hf ih =>
    intro hk
    simp only [idOk] at hk
    refine .sl o b off len cap xs fl f hlen hcell hone (fun i h => ih i h (idOks_get hk i h)) ?_
    cases fl <;> exact hf
  | nilP o => exact fun _ => .nilP o
  | ptr o id off b h =>
    intro hk
    simp only [idOk, decide_eq_true_eq] at hk
    refine .ptr o id off b ?_
    show (g.ρ.take k)[id]? = some b
    rw [List.getElem?_take, if_pos hk, h]
  | agg o cs xs hl hone hx ih =>
    intro hk
    simp only [idOk] at hk
    exact .agg o cs xs hl hone fun i h h' => ih i h h' (idOks_get hk i h')
  | tup o cs xs hl hx ih =>
    intro hk
    simp only [idOk] at hk
    exact .tup o cs xs hl fun i h h' => ih i h h' (idOks_get hk i h')
  | nilF o => exact fun _ => .nilF o
  | fn o f cs ds xs ys hl hm hx hy ihx ihy =>
    intro hk
    simp only [idOk, Bool.and_eq_true] at hk
    exact .fn o f cs ds xs ys hl hm (fun i h h' => ihx i h h' (idOks_get hk.1 i h')) (fun i h h' => ihy i h h' (idOks_get hk.2 i h'))
  | nilM o => exact fun _ => .nilM o
  | mp o id b h =>
    intro hk
    simp only [idOk, decide_eq_true_eq] at hk
    refine .mp o id b ?_
    show (g.ρ.take k)[id]? = some b
    rw [List.getElem?_take, if_pos hk, h]
  | elv o b off pos xs f hcell hone hx hm ih =>
    intro hk
    simp only [idOk] at hk
    exact .elv o b off pos xs f hcell hone (fun i h => ih i h (idOks_get hk i h)) hm
  | slo o id off len b cap hlen h =>
    intro hk
    simp only [idOk, decide_eq_true_eq] at hk
    refine .slo o id off len b cap hlen ?_
    show (g.ρ.take k)[id]? = some b
    rw [List.getElem?_take, if_pos hk, h]
  | slz o a fl hf => exact fun _ => .slz o a fl hf

theorem V.trim {g : Gh} {w : World} {o : Option Owner} {v : Value} {sv : SV} (h : V g w o v sv) {k : Nat} (hk : idOk k sv = true) (ho : ∀ q, o = some q → ∀ p, cutφ k ⟨q.root, p⟩ = ⟨q.root, p⟩) : V (g.trim k) w o v sv :=
  (h.relabel_same (cutφ k) fun q hq p => ho q hq _).cut k hk

theorem Inv.trim {g : Gh} {w : World} {st st' : List Ob} (h : Inv g w st) (hk : st' = st.take st'.length) (ha : st'.all (obOk st'.length) = true) : Inv (g.trim st'.length) w st' := by
  have hget : ∀ id, id < st'.length → st'[id]? = st[id]? := by
    intro id hid
    rw [hk] at hid ⊢
    rw [List.getElem?_take, if_pos (by simp at hid; omega)]
  have hle : st'.length ≤ st.length := by
    have := congrArg List.length hk
    simp at this; omega
  have hρ : ∀ (id b : Nat), (g.trim st'.length).ρ[id]? = some b → id < st'.length ∧ g.ρ[id]? = some b := by
    intro id b hi
    change (g.ρ.take st'.length)[id]? = some b at hi
    rw [List.getElem?_take] at hi
    split at hi
    · exact ⟨by assumption, hi⟩
    · cases hi
  have hob : ∀ id (x : Ob), st'[id]? = some x → obOk st'.length x = true := fun id x hx => List.all_eq_true.1 ha x (List.mem_of_getElem? hx)
  refine ⟨?_, fun id b hi => ?_, fun id b l hi hl => ?_, fun id b l hi hl => ?_⟩
  · show (g.ρ.take st'.length).length = _
    rw [List.length_take, h.len]; omega
  · obtain ⟨h1, h2⟩ := hρ id b hi
    obtain ⟨h3, h4, h5⟩ := h.obj id b h2
    refine ⟨h3, h4, ?_⟩
    show (g.ow b).map (cutφ st'.length) = _
    rw [h5]
    simp [cutφ, h1]
  · obtain ⟨h1, h2⟩ := hρ id b hi
    have hl' := hl
    rw [hget id h1] at hl
    obtain ⟨cur, E, lo, hi0, h3, h4, h5⟩ := h.cells id b l h2 hl
    have ho := hob id _ hl'
    simp only [obOk] at ho
    refine ⟨cur, E, lo, hi0, h3, h4, fun i hi hi' => ⟨(h5 i hi hi').1, (h5 i hi hi').2.trim (idOks_get ho i hi') ?_⟩⟩
    intro q hq p
    cases hq
    simp [cutφ, h1]
  · obtain ⟨h1, h2⟩ := hρ id b hi
    have hl' := hl
    rw [hget id h1] at hl
    obtain ⟨es, clock, h3, h4, h5⟩ := h.map id b l h2 hl
    have ho := hob id _ hl'
    simp only [obOk] at ho
    refine ⟨es, clock, h3, h4, fun i hi hi' => ?_⟩
    have := List.all_eq_true.1 ho _ (List.getElem_mem hi')
    simp only [Bool.and_eq_true] at this
    exact ⟨(h5 i hi hi').1.trim this.1 (by intro q hq; cases hq), (h5 i hi hi').2.trim this.2 (by intro q hq; cases hq)⟩

theorem Fr.trim {g0 g : Gh} {w0 w : World} (h : Fr g0 w0 g w) {k : Nat} (hk : g0.ρ.length ≤ k) : Fr g0 w0 (g.trim k) w := by
  refine ⟨⟨h.st.os, h.st.tape, h.st.output, h.st.size, h.st.cell, h.st.mark, fun id b hi => ?_⟩, fun b hb ht => ?_⟩
  · show (g.ρ.take k)[id]? = some b
    have : id < g0.ρ.length := (List.getElem?_eq_some_iff.1 hi).1
    rw [List.getElem?_take, if_pos (by omega)]
    exact h.st.rho id b hi
  · have := h.out b hb ht
    refine ⟨?_, this.mark, this.heap⟩
    show (g.ow b).map (cutφ k) = g0.ow b
    rw [this.ow]
    cases hq : g0.ow b with
    | none => rfl
    | some q =>
      have : q.root = .outer := Classical.byContradiction fun hn => ht ⟨q, hq, hn⟩
      simp [cutφ, this]

theorem EnvOk.trim {g : Gh} {w : World} {env : List SV} {tmps : Array Value} (h : EnvOk g w env tmps) {k : Nat} (hk : idOks k env = true) : EnvOk (g.trim k) w env tmps :=
  ⟨h.size, fun t h1 h2 => (h.val t h1 h2).trim (idOks_get hk t h2) (by intro q hq p; cases hq; rfl)⟩

theorem rho_le {g0 g : Gh} {w0 w : World} (h : Fr g0 w0 g w) : g0.ρ.length ≤ g.ρ.length := by
  by_cases h0 : g0.ρ.length = 0
  · omega
  · have h1 : g0.ρ[g0.ρ.length - 1]? = some (g0.ρ[g0.ρ.length - 1]'(by omega)) := List.getElem?_eq_getElem (by omega)
    have := (List.getElem?_eq_some_iff.1 (h.st.rho _ _ h1)).1
    omega

end Go.Sh
