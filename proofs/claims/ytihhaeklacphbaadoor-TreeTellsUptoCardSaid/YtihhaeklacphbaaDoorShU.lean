/-
  The shadow machine, part U: every operation, calls among them.
-/
import Derived.Test.YtihhaeklacphbaaDoorShT
set_option linter.unusedSimpArgs false
set_option linter.unusedVariables false
namespace Go.Sh

section
variable {P : Program} {g0 : Gh} {w0 : World} {g : Gh} {w : World} {s : S} {a : Act} {o : Oper} {σ : Sg} {res : List Nat} {c : Opc} {as : List Arg}

theorem op_all (h : Rel g0 w0 g s a w) (hσ : Sub σ a) (hc : cOp P res σ o = some (c, as)) (hd : ∀ t, .slot t ∈ as → o.dst ≠ some t) (hn : isCall c = false) {r : SV} {wb : List (Nat × SV)} {st' : List Ob} (he : ev s.st c (as.map (Arg.raw s)) = some (r, wb, st')) :
    EffOk P g0 w0 (S.put { env := wback as s.env wb, st := st' } o.dst r) a w o := by
  cases ho : o.op with
  | move x => exact op_1 h hσ hc hd he (.inl ⟨x, ho⟩)
  | assign x => exact op_1 h hσ hc hd he (.inr (.inl ⟨x, ho⟩))
  | pick x y z => exact op_1 h hσ hc hd he (.inr (.inr (.inl ⟨x, y, z, ho⟩)))
  | unOp op t x => exact op_1 h hσ hc hd he (.inr (.inr (.inr (.inl ⟨op, t, x, ho⟩))))
  | nilCheck x => exact op_1 h hσ hc hd he (.inr (.inr (.inr (.inr (.inl ⟨x, ho⟩)))))
  | extract x i => exact op_1 h hσ hc hd he (.inr (.inr (.inr (.inr (.inr (.inl ⟨x, i, ho⟩))))))
  | alloc t => exact op_1 h hσ hc hd he (.inr (.inr (.inr (.inr (.inr (.inr (.inl ⟨t, ho⟩)))))))
  | box e x => exact op_1 h hσ hc hd he (.inr (.inr (.inr (.inr (.inr (.inr (.inr ⟨e, x, ho⟩)))))))
  | binOp op t x y u => exact op_bin h hσ hc he ho
  | convert src dst x => exact op_conv h hσ hc he ho
  | fieldAddr t x f => exact op_2 h hσ hc he (.inl ⟨t, x, f, ho⟩)
  | field t x f => exact op_2 h hσ hc he (.inr (.inl ⟨t, x, f, ho⟩))
  | index t x i => exact op_2 h hσ hc he (.inr (.inr (.inl ⟨t, x, i, ho⟩)))
  | indexAddr t x i => exact op_2 h hσ hc he (.inr (.inr (.inr (.inl ⟨t, x, i, ho⟩))))
  | load t x => exact op_2 h hσ hc he (.inr (.inr (.inr (.inr (.inl ⟨t, x, ho⟩)))))
  | store t x y => exact op_2 h hσ hc he (.inr (.inr (.inr (.inr (.inr ⟨t, x, y, ho⟩)))))
  | slice t x lo hi mx => exact op_3 h hσ hc he (.inl ⟨t, x, lo, hi, mx, ho⟩)
  | makeSlice t x y => exact op_3 h hσ hc he (.inr (.inl ⟨t, x, y, ho⟩))
  | buildSlice t n ps => exact op_3 h hσ hc he (.inr (.inr (.inl ⟨t, n, ps, ho⟩)))
  | makeFunc f x y => exact op_3 h hσ hc he (.inr (.inr (.inr ⟨f, x, y, ho⟩)))
  | build t ps => exact op_bld h hσ hc he ho
  | makeMap t x => exact op_map h hσ hc he (.inl ⟨t, x, ho⟩)
  | lookup t x y z => exact op_map h hσ hc he (.inr (.inl ⟨t, x, y, z, ho⟩))
  | mapUpdate t x y z => exact op_map h hσ hc he (.inr (.inr (.inl ⟨t, x, y, z, ho⟩)))
  | mapEntry t x y => exact op_map h hσ hc he (.inr (.inr (.inr (.inl ⟨t, x, y, ho⟩))))
  | entryStore t x y z => exact op_map h hσ hc he (.inr (.inr (.inr (.inr ⟨t, x, y, z, ho⟩))))
  | call cl =>
    cases hcl : cl.callee with
    | builtin b => exact op_builtin h hσ hc hd he ho hcl
    | invoke r m => simp [cOp, ho, hcl] at hc
    | value f =>
      exfalso
      cases f <;> simp only [cOp, ho, hcl, Option.bind_eq_bind, Option.bind_eq_some_iff, Option.some.injEq, Prod.mk.injEq] at hc
      all_goals first
        | (obtain ⟨_, _, _, _, rfl, _⟩ := hc; simp [isCall] at hn; done)
        | skip
      split at hc
      · split at hc
        · simp only [Option.bind_eq_some_iff, Option.some.injEq, Prod.mk.injEq] at hc
          obtain ⟨_, _, hcc, _⟩ := hc
          subst hcc
          split at hn <;> simp [isCall] at hn
        · cases hc
      · cases hc
  | _ => simp [cOp, ho] at hc

/-! Calls. -/

/-- Nobody's slots and results own anything. -/
def Clean (g : Gh) : Prop := ∀ b q, g.ow b = some q → (∀ t, q.root ≠ .slot t) ∧ q.root ≠ .ret

/-- What is shown of a function: called so, it hands back r, and these are the objects then. -/
def Plain (P : Program) (f : FuncId) : Prop := ∃ fn, P.funcs[f]? = some fn ∧ fn.body.isNone = false ∧ (fn.name == "runtime.NumGoroutine") = false ∧ f < XB
theorem Plain.lt {P : Program} {f : FuncId} (h : Plain P f) : f < XB := by obtain ⟨_, _, _, _, h⟩ := h; exact h

def RealC (P : Program) (f : FuncId) (args : List SV) (st : List Ob) (r : SV) (st' : List Ob) : Prop :=
  Plain P f ∧ ∀ g w (vs : List Value), Clean g → Inv g w st → (vs.length = args.length ∧ ∀ i (h : i < vs.length) (h' : i < args.length), V g w none (vs[i]'h) (args[i]'h')) →
    Calls P f vs.toArray w fun e w' => ∃ rv g', e = .returned rv ∧ Inv g' w' st' ∧ V g' w' retO rv r ∧ Fr g w g' w' ∧ ∀ b q, g'.ow b = some q → ∀ t, q.root ≠ .slot t

/-- What is shown of a function that takes its first argument over. -/
def RealX (P : Program) (f : FuncId) (args : List SV) (st : List Ob) (r : SV) (st' : List Ob) : Prop :=
  Plain P f ∧ st' = st ∧ ∃ es rest ys m, r = .sl ys m (.excl es) ∧ ys.length = m * es ∧
    ((∃ xs n k, es = k + 1 ∧ args = .sl xs n (.excl es) :: rest ∧
      ∀ (g : Gh) (w : World) (b cap : Nat) (F : Nat → Value) (vs : List Value), n ≤ cap → (∀ i, i < xs.length → w.cell? ⟨b, 0 + i, none⟩ = some (F i)) → (∀ i, i < xs.length → (F i).oneCell' = true) → (∀ i (h : i < xs.length), V g w none (F i) (xs[i]'h)) → xs.length = n * es → g.mark b = 0 → Gro w b cap es →
      (vs.length = rest.length ∧ ∀ i (h : i < vs.length) (h' : i < rest.length), ∃ o, V g w o (vs[i]'h) (rest[i]'h')) →
      Calls P f (Value.slice (some ⟨b, 0, none⟩) n cap :: vs).toArray w fun e w' => ∃ (b' cap' : Nat) (F' : Nat → Value), e = .returned (.slice (some ⟨b', 0, none⟩) m cap') ∧ m ≤ cap' ∧ (w'.os = w.os ∧ w'.tape = w.tape ∧ w'.output = w.output ∧ w.heap.size ≤ w'.heap.size) ∧ (∀ k, k < w.heap.size → k ≠ b → w'.heap[k]? = w.heap[k]?) ∧ (b' = b ∨ w.heap.size ≤ b') ∧ Gro w' b' cap' es ∧
        ∀ i (h : i < ys.length), w'.cell? ⟨b', 0 + i, none⟩ = some (F' i) ∧ (F' i).oneCell' = true ∧ V g w none (F' i) (ys[i]'h)) ∨
    (args = .sl [] 0 (.excl 0) :: rest ∧
      ∀ (g : Gh) (w : World) (vs : List Value), (vs.length = rest.length ∧ ∀ i (h : i < vs.length) (h' : i < rest.length), ∃ o, V g w o (vs[i]'h) (rest[i]'h')) →
      Calls P f (Value.slice none 0 0 :: vs).toArray w fun e w' => ∃ (b' cap' : Nat) (F' : Nat → Value), e = .returned (.slice (some ⟨b', 0, none⟩) m cap') ∧ m ≤ cap' ∧ (w'.os = w.os ∧ w'.tape = w.tape ∧ w'.output = w.output ∧ w.heap.size ≤ w'.heap.size) ∧ (∀ k, k < w.heap.size → w'.heap[k]? = w.heap[k]?) ∧ w.heap.size ≤ b' ∧ Gro w' b' cap' es ∧
        ∀ i (h : i < ys.length), w'.cell? ⟨b', 0 + i, none⟩ = some (F' i) ∧ (F' i).oneCell' = true ∧ V g w none (F' i) (ys[i]'h)))

def Sound (P : Program) (O : Orc) : Prop := ∀ f args st r st', O f args st r st' → (f < XB → RealC P f args st r st') ∧ (XB ≤ f → RealX P (f - XB) args st r st')

/-- The callers' own things are others' in the callee. -/
def outer : Owner → Owner := fun q => match q.root with | .slot _ | .ret => { q with root := .outer } | _ => q

theorem outer_cell (id i : Nat) (p : List Nat) : outer ⟨.cell id i, p⟩ = ⟨.cell id i, p⟩ := rfl
theorem outer_obj (id : Nat) (p : List Nat) : outer ⟨.obj id, p⟩ = ⟨.obj id, p⟩ := rfl

theorem Inv.re {st : List Ob} (h : Inv g w st) (φ : Owner → Owner) (hc : ∀ id i p, φ ⟨.cell id i, p⟩ = ⟨.cell id i, p⟩) (ho : ∀ id, φ ⟨.obj id, []⟩ = ⟨.obj id, []⟩) : Inv (g.re φ) w st where
  len := h.len
  obj := fun id b hi => by
    obtain ⟨h1, h2, h3⟩ := h.obj id b hi
    exact ⟨h1, h2, by simp [Gh.re, h3, ho]⟩
  cells := fun id b l hi hl => by
    obtain ⟨cur, E, lo0, hi0, h1, h2, h3⟩ := h.cells id b l hi hl
    exact ⟨cur, E, lo0, hi0, h1, h2, fun i hi hi' => ⟨(h3 i hi hi').1, (h3 i hi hi').2.relabel_same _ (by intro q hq p; cases hq; exact hc _ _ _)⟩⟩
  map := fun id b l hi hl => by
    obtain ⟨es, clock, h1, h2, h3⟩ := h.map id b l hi hl
    exact ⟨es, clock, h1, h2, fun i hi hi' => ⟨(h3 i hi hi').1.relabel_same _ (by intro q hq; cases hq), (h3 i hi hi').2.relabel_same _ (by intro q hq; cases hq)⟩⟩

theorem clean_outer (g : Gh) : Clean (g.re outer) := by
  intro b q hq
  simp only [Gh.re, Option.map_eq_some_iff] at hq
  obtain ⟨q', _, rfl⟩ := hq
  unfold outer
  split
  · exact ⟨fun t => by simp, by simp⟩
  · exact ⟨fun t => by simp, by simp⟩
  · rename_i h1 h2
    exact ⟨h1, h2⟩

/-- A call's way back: what the callee leaves, and what was the caller's own. -/
theorem back (h : Rel g0 w0 g s a w) {g' : Gh} {w' : World} {st' : List Ob} {rv : Value} {r : SV} (hI : Inv g' w' st') (hv : V g' w' retO rv r) (hF : Fr (g.re outer) w g' w') (hns : ∀ b q, g'.ow b = some q → ∀ t, q.root ≠ .slot t) (dd : Option Nat) :
    ∃ g'', Rel g0 w0 g'' (S.put { s with st := st' } dd r) (a.put dd rv) w' := by
  classical
  let d := dd.getD 0
  let mine : Nat → Prop := fun b => b < w.heap.size ∧ ∃ q, g.ow b = some q ∧ ((∃ t, q.root = .slot t) ∨ q.root = .ret)
  let g1 : Gh := g'.re (mv .ret (.slot d))
  let g2 : Gh := { mark := g'.mark, ow := fun b => if mine b then g.ow b else g1.ow b, ρ := g'.ρ }
  have hmine : ∀ b, mine b → Keep (g.re outer) w g' w' b := by
    rintro b ⟨hb, q, hq, hr⟩
    refine hF.out b hb ?_
    rintro ⟨q', hq', hne⟩
    simp only [Gh.re, hq, Option.map_some, Option.some.injEq] at hq'
    subst hq'
    apply hne
    unfold outer
    rcases hr with ⟨t, ht⟩ | ht <;> rw [ht]
  have hkeep : ∀ b, mine b → Keep g w g2 w' b := by
    intro b hb
    have := hmine b hb
    exact ⟨by show (if mine b then g.ow b else g1.ow b) = g.ow b; rw [if_pos hb], this.mark, this.heap⟩
  have hout : ∀ b, b < w.heap.size → ¬ Touch (g.ow b) → Keep g w g2 w' b := by
    intro b hb ht
    have hnm : ¬ mine b := by
      rintro ⟨_, q, hq, hr⟩
      exact ht ⟨q, hq, by rcases hr with ⟨t, h1⟩ | h1 <;> rw [h1] <;> simp⟩
    have hgo : (g.re outer).ow b = g.ow b := by
      show (g.ow b).map outer = g.ow b
      cases hq : g.ow b with
      | none => rfl
      | some q =>
        have : q.root = .outer := Classical.byContradiction fun hn => ht ⟨q, hq, hn⟩
        simp only [Option.map_some, outer, this]
    have k := hF.out b hb (by rw [hgo]; exact ht)
    refine ⟨?_, k.mark, k.heap⟩
    show (if mine b then g.ow b else g1.ow b) = g.ow b
    rw [if_neg hnm]
    show (g'.ow b).map _ = g.ow b
    rw [k.ow, hgo]
    cases hq : g.ow b with
    | none => rfl
    | some q =>
      have : q.root = .outer := Classical.byContradiction fun hn => ht ⟨q, hq, hn⟩
      simp only [Option.map_some, mv, this]
      rw [if_neg (by simp)]
  have st : St g w g2 w' := ⟨hF.st.os, hF.st.tape, hF.st.output, hF.st.size, hF.st.cell, hF.st.mark, hF.st.rho⟩
  have fr : Fr g w g2 w' := ⟨st, hout⟩
  -- from g1 to g2
  have st12 : St g1 w' g2 w' := ⟨rfl, rfl, rfl, Nat.le_refl _, fun _ _ _ _ => rfl, fun _ _ => Nat.le_refl _, fun _ _ h => h⟩
  have k12 : ∀ b q, g1.ow b = some q → q.root ≠ .outer → Keep g1 w' g2 w' b := by
    intro b q hq hr
    refine ⟨?_, rfl, rfl⟩
    show (if mine b then g.ow b else g1.ow b) = g1.ow b
    rw [if_neg]
    intro hm
    have := (hmine b hm).ow
    obtain ⟨_, q0, hq0, hr0⟩ := hm
    simp only [Gh.re, hq0, Option.map_some] at this
    have h2 : g1.ow b = some (mv .ret (.slot d) (outer q0)) := by
      show (g'.ow b).map _ = _
      rw [this]; rfl
    rw [h2] at hq
    simp only [Option.some.injEq] at hq
    apply hr
    rw [← hq]
    unfold mv outer
    rcases hr0 with ⟨t, h3⟩ | h3 <;> rw [h3] <;> simp
  have hI1 : Inv g1 w' st' := hI.mv (by simp) (by simp)
  have hI2 : Inv g2 w' st' := hI1.mono st12 rfl (fun id b hi => k12 b _ (hI1.obj id b hi).2.2 (by simp)) (fun id i => cell_ne fun b p _ hq => k12 b _ hq (by simp))
  have hE : EnvOk g2 w' s.env a.tmps := h.env.mono st fun t => slot_ne fun b p hb hq => hkeep b ⟨hb, _, hq, .inl ⟨t, rfl⟩⟩
  have hv1 : V g1 w' (slotO d) rv r := by
    refine hv.relabel _ _ ?_
    intro q hq
    cases hq
    exact ⟨_, rfl, fun p => by simp [mv]⟩
  have hv2 : V g2 w' (slotO d) rv r := hv1.mono st12 (slot_ne fun b p _ hq => k12 b _ hq (by simp))
  refine ⟨g2, Rel.put (s := { s with st := st' }) ⟨h.fr.trans fr, hI2, hE, h.defers⟩ fun t ht => ?_⟩
  have : d = t := by simp [d, ht]
  rw [← this]
  exact hv2

end
end Go.Sh
