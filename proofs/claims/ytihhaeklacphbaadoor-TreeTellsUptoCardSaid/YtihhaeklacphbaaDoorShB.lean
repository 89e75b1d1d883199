/-
  The shadow machine, part B: the state, what it says of the model's frame and memory, and the steps that keep it.
-/
import Derived.Test.YtihhaeklacphbaaDoorShA
set_option linter.unusedSimpArgs false
set_option linter.unusedVariables false
namespace Go.Sh

structure S where
  env : List SV
  st : List Ob

def S.get (s : S) (t : Nat) : SV := s.env.getD t .undef
def S.put (s : S) (d : Option Nat) (v : SV) : S := match d with | some d => { s with env := s.env.set d v } | none => s

def slotO (t : Nat) : Option Owner := some ⟨.slot t, []⟩
def cellO (id i : Nat) : Option Owner := some ⟨.cell id i, []⟩
def retO : Option Owner := some ⟨.ret, []⟩

structure EnvOk (g : Gh) (w : World) (env : List SV) (tmps : Array Value) : Prop where
  size : tmps.size = env.length
  val : ∀ t (h : t < tmps.size) (h' : t < env.length), V g w (slotO t) (tmps[t]'h) (env[t]'h')

def CellsOk (g : Gh) (w : World) (id b : Nat) (l : List SV) : Prop :=
  ∃ cur E lo hi, w.heap[b]? = some (.cells cur E (lo, hi)) ∧ (l.length ≤ cur.size ∧ (hi ≤ lo ∨ l.length ≤ lo)) ∧
    ∀ i (h : i < cur.size) (h' : i < l.length), (cur[i]'h).oneCell' = true ∧ V g w (cellO id i) (cur[i]'h) (l[i]'h')

/-- Nothing was ever dropped of it: each entry's stamp is its place. -/
structure Stmp (es : Array MapEntry) (clock : Nat) : Prop where
  size : clock = es.size
  born : ∀ i (h : i < es.size), (es[i]'h).born = i
def MapOk (g : Gh) (w : World) (b : Nat) (l : List (SV × SV)) : Prop :=
  ∃ es clock, w.heap[b]? = some (.map es clock) ∧ (es.size = l.length ∧ Stmp es clock) ∧
    ∀ i (h : i < es.size) (h' : i < l.length), V g w none (es[i]'h).key (l[i]'h').1 ∧ V g w none (es[i]'h).val (l[i]'h').2

structure Inv (g : Gh) (w : World) (st : List Ob) : Prop where
  len : g.ρ.length = st.length
  obj : ∀ (id b : Nat), g.ρ[id]? = some b → b < w.heap.size ∧ g.mark b = 0 ∧ g.ow b = some ⟨.obj id, []⟩
  cells : ∀ (id b : Nat) l, g.ρ[id]? = some b → st[id]? = some (.cells l) → CellsOk g w id b l
  map : ∀ (id b : Nat) l, g.ρ[id]? = some b → st[id]? = some (.map l) → MapOk g w b l

def Touch (o : Option Owner) : Prop := ∃ q, o = some q ∧ q.root ≠ .outer

/-- How a run within a function goes on: what is nobody's, and what is the callers', stays. -/
structure Fr (g : Gh) (w : World) (g' : Gh) (w' : World) : Prop where
  st : St g w g' w'
  out : ∀ b, b < w.heap.size → ¬ Touch (g.ow b) → Keep g w g' w' b

theorem Keep.refl (g : Gh) (w : World) (b : Nat) : Keep g w g w b := ⟨rfl, rfl, rfl⟩
theorem Keep.trans {g g' g'' : Gh} {w w' w'' : World} {b : Nat} (h : Keep g w g' w' b) (k : Keep g' w' g'' w'' b) : Keep g w g'' w'' b :=
  ⟨k.ow.trans h.ow, k.mark.trans h.mark, k.heap.trans h.heap⟩
theorem Fr.refl (g : Gh) (w : World) : Fr g w g w := ⟨.refl g w, fun b _ _ => .refl g w b⟩
theorem Fr.trans {g g' g'' : Gh} {w w' w'' : World} (h : Fr g w g' w') (k : Fr g' w' g'' w'') : Fr g w g'' w'' :=
  ⟨h.st.trans k.st, fun b hb ht => (h.out b hb ht).trans (k.out b (Nat.lt_of_lt_of_le hb h.st.size) (by rw [(h.out b hb ht).ow]; exact ht))⟩

structure Rel (g0 : Gh) (w0 : World) (g : Gh) (s : S) (a : Act) (w : World) : Prop where
  fr : Fr g0 w0 g w
  inv : Inv g w s.st
  env : EnvOk g w s.env a.tmps
  defers : a.defers = []

/-! Reading a slot. -/

theorem EnvOk.get {g : Gh} {w : World} {s : S} {a : Act} (h : EnvOk g w s.env a.tmps) (t : Nat) : V g w (slotO t) (a.eval (.tmp t)) (s.get t) := by
  unfold S.get
  simp only [Act.eval, Array.getD_eq_getD_getElem?, List.getD_eq_getElem?_getD]
  by_cases ht : t < s.env.length
  · have ht' : t < a.tmps.size := by rw [h.size]; exact ht
    rw [List.getElem?_eq_getElem ht, Array.getElem?_eq_getElem ht']
    exact h.val t ht' ht
  · rw [List.getElem?_eq_none (by omega)]
    exact .undef _ _

theorem EnvOk.put {g : Gh} {w : World} {env : List SV} {tmps : Array Value} (h : EnvOk g w env tmps) {d : Nat} {rv : Value} {v : SV} (hv : V g w (slotO d) rv v) :
    EnvOk g w (env.set d v) (tmps.setIfInBounds d rv) := by
  refine ⟨by simpa using h.size, fun t ht ht' => ?_⟩
  rw [Array.getElem_setIfInBounds, List.getElem_set]
  split
  · rename_i e; subst e; exact hv
  · exact h.val t (by simpa using ht) (by simpa using ht')

theorem Rel.put {g0 : Gh} {w0 : World} {g : Gh} {s : S} {a : Act} {w : World} (h : Rel g0 w0 g s a w) {d : Option Nat} {rv : Value} {v : SV} (hv : ∀ t, d = some t → V g w (slotO t) rv v) :
    Rel g0 w0 g (s.put d v) (a.put d rv) w := by
  cases d with
  | none => exact h
  | some d => exact ⟨h.fr, h.inv, h.env.put (hv d rfl), h.defers⟩

theorem slot_ne {g : Gh} {w : World} {g' : Gh} {w' : World} {t : Nat} (h : ∀ b p, b < w.heap.size → g.ow b = some ⟨.slot t, p⟩ → Keep g w g' w' b) : KeepRoot g w g' w' (slotO t) := by
  intro q hq b q' hb hw hr
  cases hq
  obtain ⟨r, p⟩ := q'
  cases hr
  exact h b p hb hw

theorem cell_ne {g : Gh} {w : World} {g' : Gh} {w' : World} {id i : Nat} (h : ∀ b p, b < w.heap.size → g.ow b = some ⟨.cell id i, p⟩ → Keep g w g' w' b) : KeepRoot g w g' w' (cellO id i) := by
  intro q hq b q' hb hw hr
  cases hq
  obtain ⟨r, p⟩ := q'
  cases hr
  exact h b p hb hw

/-- Everything is kept that was there. -/
def KeepAll (g : Gh) (w : World) (g' : Gh) (w' : World) : Prop := ∀ b, b < w.heap.size → Keep g w g' w' b

theorem KeepAll.root {g : Gh} {w : World} {g' : Gh} {w' : World} (h : KeepAll g w g' w') (o : Option Owner) : KeepRoot g w g' w' o := fun _ _ b _ hb _ _ => h b hb
theorem KeepAll.st {g : Gh} {w : World} {g' : Gh} {w' : World} (h : KeepAll g w g' w') (ho : w'.os = w.os) (ht : w'.tape = w.tape) (hu : w'.output = w.output) (hs : w.heap.size ≤ w'.heap.size)
    (hr : ∀ (id b : Nat), g.ρ[id]? = some b → g'.ρ[id]? = some b) : St g w g' w' :=
  ⟨ho, ht, hu, hs, fun b i hb _ => (h b hb).cell i, fun b hb => Nat.le_of_eq (h b hb).mark.symm, hr⟩
theorem KeepAll.fr {g : Gh} {w : World} {g' : Gh} {w' : World} (h : KeepAll g w g' w') (st : St g w g' w') : Fr g w g' w' := ⟨st, fun b hb _ => h b hb⟩

theorem V.all {g : Gh} {w : World} {g' : Gh} {w' : World} {o : Option Owner} {v : Value} {sv : SV} (h : V g w o v sv) (k : KeepAll g w g' w') (st : St g w g' w') : V g' w' o v sv := h.mono st (k.root o)

theorem EnvOk.mono {g : Gh} {w : World} {g' : Gh} {w' : World} {env : List SV} {tmps : Array Value} (h : EnvOk g w env tmps) (st : St g w g' w') (k : ∀ t, KeepRoot g w g' w' (slotO t)) : EnvOk g' w' env tmps :=
  ⟨h.size, fun t ht ht' => (h.val t ht ht').mono st (k t)⟩

theorem CellsOk.mono {g : Gh} {w : World} {g' : Gh} {w' : World} {id b : Nat} {l : List SV} (h : CellsOk g w id b l) (st : St g w g' w') (hb : w'.heap[b]? = w.heap[b]?) (k : ∀ i, KeepRoot g w g' w' (cellO id i)) : CellsOk g' w' id b l := by
  obtain ⟨cur, E, lo, hi, h1, h2, h3⟩ := h
  exact ⟨cur, E, lo, hi, hb.trans h1, h2, fun i hi hi' => ⟨(h3 i hi hi').1, (h3 i hi hi').2.mono st (k i)⟩⟩

theorem MapOk.mono {g : Gh} {w : World} {g' : Gh} {w' : World} {b : Nat} {l : List (SV × SV)} (h : MapOk g w b l) (st : St g w g' w') (hb : w'.heap[b]? = w.heap[b]?) : MapOk g' w' b l := by
  obtain ⟨es, clock, h1, h2, h3⟩ := h
  exact ⟨es, clock, hb.trans h1, h2, fun i hi hi' => ⟨(h3 i hi hi').1.mono st (KeepRoot.none _ _ _ _), (h3 i hi hi').2.mono st (KeepRoot.none _ _ _ _)⟩⟩

/-- The objects stay as they are: their blocks are kept, and all that their cells own. -/
theorem Inv.mono {g : Gh} {w : World} {g' : Gh} {w' : World} {st : List Ob} (h : Inv g w st) (s : St g w g' w') (hρ : g'.ρ = g.ρ)
    (ko : ∀ (id b : Nat), g.ρ[id]? = some b → Keep g w g' w' b) (kc : ∀ id i, KeepRoot g w g' w' (cellO id i)) : Inv g' w' st where
  len := by rw [hρ]; exact h.len
  obj := fun id b hi => by
    rw [hρ] at hi
    obtain ⟨h1, h2, h3⟩ := h.obj id b hi
    exact ⟨Nat.lt_of_lt_of_le h1 s.size, (ko id b hi).mark.trans h2, (ko id b hi).ow.trans h3⟩
  cells := fun id b l hi hl => by
    rw [hρ] at hi
    exact (h.cells id b l hi hl).mono s (ko id b hi).heap (kc id)
  map := fun id b l hi hl => by
    rw [hρ] at hi
    exact (h.map id b l hi hl).mono s (ko id b hi).heap

/-! A new block that a slot owns. -/

def Gh.own (g : Gh) (b m : Nat) (o : Owner) : Gh := { g with mark := fun x => if x = b then m else g.mark x, ow := fun x => if x = b then some o else g.ow x }

theorem Gh.own_keep (g : Gh) (w w' : World) (m : Nat) (o : Owner) (hh : ∀ b, b < w.heap.size → w'.heap[b]? = w.heap[b]?) : KeepAll g w (g.own w.heap.size m o) w' := by
  intro b hb
  exact ⟨by simp [Gh.own, Nat.ne_of_lt hb], by simp [Gh.own, Nat.ne_of_lt hb], hh b hb⟩

theorem Rel.grow {g0 : Gh} {w0 : World} {g : Gh} {s : S} {a : Act} {w : World} (h : Rel g0 w0 g s a w) {g' : Gh} {w' : World} (k : KeepAll g w g' w') (st : St g w g' w') (hρ : g'.ρ = g.ρ) : Rel g0 w0 g' s a w' :=
  ⟨h.fr.trans (k.fr st), h.inv.mono st hρ (fun id b hi => k b (h.inv.obj id b hi).1) (fun id i => k.root _), h.env.mono st fun t => k.root _, h.defers⟩

theorem Rel.drew {g0 : Gh} {w0 : World} {g : Gh} {s : S} {a : Act} {w : World} (h : Rel g0 w0 g s a w) : Rel g0 w0 g s a w.drew :=
  h.grow (fun b _ => ⟨rfl, rfl, rfl⟩) ⟨rfl, rfl, rfl, Nat.le_refl _, fun _ _ _ _ => rfl, fun _ _ => Nat.le_refl _, fun _ _ h => h⟩ rfl

/-! Owners get other names. -/

def Gh.re (g : Gh) (φ : Owner → Owner) : Gh := { g with ow := fun b => (g.ow b).map φ }

theorem V.relabel {g : Gh} {w : World} {o : Option Owner} {v : Value} {sv : SV} (h : V g w o v sv) (φ : Owner → Owner) : ∀ (o' : Option Owner),
    (∀ q, o = some q → ∃ q', o' = some q' ∧ ∀ p, φ ⟨q.root, p ++ q.path⟩ = ⟨q'.root, p ++ q'.path⟩) → V (g.re φ) w o' v sv := by
  induction h with
  | undef o v => exact fun o' _ => .undef o' v
  | bool o b => exact fun o' _ => .bool o' b
  | int o k n => exact fun o' _ => .int o' k n
  | str o s => exact fun o' _ => .str o' s
  | nilS o => exact fun o' _ => .nilS o'
  | sl o b off len cap xs fl f hlen hcell hone hx hf ih =>
    intro o' ho
    refine .sl o' b off len cap xs fl f hlen hcell hone (fun i h => ih i h none (by intro q hq; cases hq)) ?_
    cases fl with
    | ro => exact hf
    | full => exact hf
    | own es =>
      obtain ⟨⟨q, hq, hw⟩, r⟩ := hf
      obtain ⟨q', hq', hp⟩ := ho q hq
      refine ⟨⟨q', hq', ?_⟩, r⟩
      simp only [Gh.re, hw, Option.map_some]
      exact congrArg some (hp [])
    | excl es =>
      obtain ⟨⟨q, hq, hw⟩, r⟩ := hf
      obtain ⟨q', hq', hp⟩ := ho q hq
      refine ⟨⟨q', hq', ?_⟩, r⟩
      simp only [Gh.re, hw, Option.map_some]
      exact congrArg some (hp [])
  | nilP o => exact fun o' _ => .nilP o'
  | ptr o id off b h => exact fun o' _ => .ptr o' id off b h
  | agg o cs xs hl hone hx ih =>
    intro o' ho
    refine .agg o' cs xs hl hone fun i h h' => ih i h h' _ ?_
    intro q hq
    cases o with
    | none => simp [Owner.sub] at hq
    | some r =>
      simp only [Owner.sub, Option.map_some, Option.some.injEq] at hq
      subst hq
      obtain ⟨q', rfl, hp⟩ := ho r rfl
      exact ⟨{ q' with path := i :: q'.path }, rfl, fun p => by simpa using hp (p ++ [i])⟩
  | tup o cs xs hl hx ih =>
    intro o' ho
    refine .tup o' cs xs hl fun i h h' => ih i h h' _ ?_
    intro q hq
    cases o with
    | none => simp [Owner.sub] at hq
    | some r =>
      simp only [Owner.sub, Option.map_some, Option.some.injEq] at hq
      subst hq
      obtain ⟨q', rfl, hp⟩ := ho r rfl
      exact ⟨{ q' with path := i :: q'.path }, rfl, fun p => by simpa using hp (p ++ [i])⟩
  | nilF o => exact fun o' _ => .nilF o'
  | fn o f cs ds xs ys hl hm hx hy ihx ihy =>
    exact fun o' _ => .fn o' f cs ds xs ys hl hm (fun i h h' => ihx i h h' none (by intro q hq; cases hq)) (fun i h h' => ihy i h h' none (by intro q hq; cases hq))
  | nilM o => exact fun o' _ => .nilM o'
  | mp o id b h => exact fun o' _ => .mp o' id b h
  | elv o b off pos xs f hcell hone hx hm ih => exact fun o' _ => .elv o' b off pos xs f hcell hone (fun i h => ih i h none (by intro q hq; cases hq)) hm
  | slo o id off len b cap hlen h => exact fun o' _ => .slo o' id off len b cap hlen h
  | slz o a fl hf => exact fun o' _ => .slz o' a fl hf

/-- The same owner still, where its name stays. -/
theorem V.relabel_same {g : Gh} {w : World} {o : Option Owner} {v : Value} {sv : SV} (h : V g w o v sv) (φ : Owner → Owner) (hφ : ∀ q, o = some q → ∀ p, φ ⟨q.root, p ++ q.path⟩ = ⟨q.root, p ++ q.path⟩) : V (g.re φ) w o v sv :=
  h.relabel φ o fun q hq => ⟨q, hq, hφ q hq⟩

/-- From one root to another. -/
def mv (r r' : Root) : Owner → Owner := fun q => if q.root = r then { q with root := r' } else q

theorem Gh.re_st (g : Gh) (w : World) (φ : Owner → Owner) : St g w (g.re φ) w := ⟨rfl, rfl, rfl, Nat.le_refl _, fun _ _ _ _ => rfl, fun _ _ => Nat.le_refl _, fun _ _ h => h⟩

theorem Gh.mv_fr (g : Gh) (w : World) {r r' : Root} (hr : r ≠ .outer) : Fr g w (g.re (mv r r')) w := by
  refine ⟨g.re_st w _, fun b _ ht => ⟨?_, rfl, rfl⟩⟩
  show (g.ow b).map _ = g.ow b
  cases ho : g.ow b with
  | none => rfl
  | some q =>
    have : q.root = .outer := Classical.byContradiction fun hn => ht ⟨q, ho, hn⟩
    simp only [Option.map_some, mv]
    rw [if_neg (by rw [this]; exact fun e => hr e.symm)]

theorem Inv.mv {g : Gh} {w : World} {st : List Ob} (h : Inv g w st) {r r' : Root} (hr : ∀ id, r ≠ .obj id) (hc : ∀ id i, r ≠ .cell id i) : Inv (g.re (mv r r')) w st where
  len := h.len
  obj := fun id b hi => by
    obtain ⟨h1, h2, h3⟩ := h.obj id b hi
    refine ⟨h1, h2, ?_⟩
    simp only [Gh.re, h3, Option.map_some, Sh.mv]
    rw [if_neg (fun e => hr id e.symm)]
  cells := fun id b l hi hl => by
    obtain ⟨cur, E, lo, hi0, h1, h2, h3⟩ := h.cells id b l hi hl
    refine ⟨cur, E, lo, hi0, h1, h2, fun i hi hi' => ⟨(h3 i hi hi').1, (h3 i hi hi').2.relabel_same _ ?_⟩⟩
    intro q hq p
    cases hq
    simp only [Sh.mv]
    rw [if_neg (fun e => hc id i e.symm)]
  map := fun id b l hi hl => by
    obtain ⟨es, clock, h1, h2, h3⟩ := h.map id b l hi hl
    exact ⟨es, clock, h1, h2, fun i hi hi' => ⟨(h3 i hi hi').1.relabel_same _ (by intro q hq; cases hq), (h3 i hi hi').2.relabel_same _ (by intro q hq; cases hq)⟩⟩

end Go.Sh
