/-
  The shadow machine, part A: pure values, how a value of the model reads as a pure value, and what keeps that reading.
-/
import Derived.Calls
import Derived.Below
import Derived.Deep.AppendSrc
set_option linter.unusedSimpArgs false
set_option linter.unusedVariables false
namespace Go.Sh

/-- What is known of a slice's array: shared; shared and full (cap = len); owned by this place (it may be appended to in place); owned by this place, and met nowhere else. -/
inductive Fl where
  | ro | full | own (es : Nat) | excl (es : Nat)
  deriving DecidableEq

inductive SV where
  | undef
  | bool (b : Bool)
  | int (k : IntKind) (n : Int)
  | str (s : List UInt8)
  | nilS
  | sl (xs : List SV) (len : Nat) (fl : Fl)
  | nilP
  | ptr (id off : Nat)
  | agg (xs : List SV)
  | tup (xs : List SV)
  | nilF
  | fn (f : FuncId) (first cap : List SV)
  | nilM
  | mp (id : Nat)
  | elv (xs : List SV) (pos : Nat)      -- the address of a cell of a slice that stays as it is
  | slo (id off len : Nat)      -- a slice of an object's cells
  deriving Inhabited

inductive Ob where
  | cells (l : List SV)
  | map (l : List (SV × SV))

inductive Root where
  | slot (t : Nat) | cell (id off : Nat) | ret | outer | obj (id : Nat)
  deriving DecidableEq

structure Owner where
  root : Root
  path : List Nat

def Owner.sub (o : Option Owner) (i : Nat) : Option Owner := o.map fun o => { o with path := i :: o.path }

structure Gh where
  mark : Nat → Nat
  ow : Nat → Option Owner
  ρ : List Nat

/-- A block that may grow in place: its cells up to the capacity are there, and none is frozen. -/
def Gro (w : World) (b cap es : Nat) : Prop :=
  ∃ cur E lo hi, w.heap[b]? = some (.cells cur E (lo, hi)) ∧ cap * es ≤ cur.size ∧ (hi ≤ lo ∨ (cur.size ≤ lo ∧ es = 1)) ∧ cap ≤ maxLen

def Fok (g : Gh) (w : World) (o : Option Owner) (b off len cap n : Nat) : Fl → Prop
  | .ro => n = 0 ∨ off + n ≤ g.mark b
  | .full => (n = 0 ∨ off + n ≤ g.mark b) ∧ cap = len
  | .own es => (∃ o', o = some o' ∧ g.ow b = some o') ∧ off = 0 ∧ n = len * es ∧ g.mark b = n ∧ Gro w b cap es
  | .excl es => (∃ o', o = some o' ∧ g.ow b = some o') ∧ off = 0 ∧ n = len * es ∧ g.mark b = 0 ∧ Gro w b cap es

inductive V (g : Gh) (w : World) : Option Owner → Value → SV → Prop
  | undef (o : Option Owner) (v : Value) : V g w o v .undef
  | bool (o : Option Owner) (b : Bool) : V g w o (.bool b) (.bool b)
  | int (o : Option Owner) (k : IntKind) (n : Int) : V g w o (.int k n) (.int k n)
  | str (o : Option Owner) (s : ByteArray) : V g w o (.string s) (.str s.data.toList)
  | nilS (o : Option Owner) : V g w o (.slice none 0 0) .nilS
  | sl (o : Option Owner) (b off len cap : Nat) (xs : List SV) (fl : Fl) (f : Nat → Value)
      (hlen : len ≤ cap) (hcell : ∀ i, i < xs.length → w.cell? ⟨b, off + i, none⟩ = some (f i))
      (hone : ∀ i, i < xs.length → (f i).oneCell' = true)
      (hx : ∀ i (h : i < xs.length), V g w none (f i) (xs[i]'h))
      (hf : Fok g w o b off len cap xs.length fl) : V g w o (.slice (some ⟨b, off, none⟩) len cap) (.sl xs len fl)
  | nilP (o : Option Owner) : V g w o (.pointer none) .nilP
  | ptr (o : Option Owner) (id off b : Nat) (h : g.ρ[id]? = some b) : V g w o (.pointer (some ⟨b, off, none⟩)) (.ptr id off)
  | agg (o : Option Owner) (cs : Array Value) (xs : List SV) (hl : cs.size = xs.length)
      (hone : ∀ i (h : i < cs.size), (cs[i]'h).oneCell' = true)
      (hx : ∀ i (h : i < cs.size) (h' : i < xs.length), V g w (Owner.sub o i) (cs[i]'h) (xs[i]'h')) : V g w o (.agg cs) (.agg xs)
  | tup (o : Option Owner) (cs : Array Value) (xs : List SV) (hl : cs.size = xs.length)
      (hx : ∀ i (h : i < cs.size) (h' : i < xs.length), V g w (Owner.sub o i) (cs[i]'h) (xs[i]'h')) : V g w o (.tuple cs) (.tup xs)
  | nilF (o : Option Owner) : V g w o .nilFunc .nilF
  | fn (o : Option Owner) (f : FuncId) (cs ds : Array Value) (xs ys : List SV) (hl : cs.size = xs.length) (hm : ds.size = ys.length)
      (hx : ∀ i (h : i < cs.size) (h' : i < xs.length), V g w none (cs[i]'h) (xs[i]'h'))
      (hy : ∀ i (h : i < ds.size) (h' : i < ys.length), V g w none (ds[i]'h) (ys[i]'h')) : V g w o (.func (.func f) cs ds) (.fn f xs ys)
  | nilM (o : Option Owner) : V g w o (.map none) .nilM
  | mp (o : Option Owner) (id b : Nat) (h : g.ρ[id]? = some b) : V g w o (.map (some b)) (.mp id)
  | elv (o : Option Owner) (b off pos : Nat) (xs : List SV) (f : Nat → Value)
      (hcell : ∀ i, i < xs.length → w.cell? ⟨b, off + i, none⟩ = some (f i))
      (hone : ∀ i, i < xs.length → (f i).oneCell' = true)
      (hx : ∀ i (h : i < xs.length), V g w none (f i) (xs[i]'h))
      (hm : xs.length = 0 ∨ off + xs.length ≤ g.mark b) : V g w o (.pointer (some ⟨b, off + pos, none⟩)) (.elv xs pos)
  | slo (o : Option Owner) (id off len b cap : Nat) (hlen : len ≤ cap) (h : g.ρ[id]? = some b) : V g w o (.slice (some ⟨b, off, none⟩) len cap) (.slo id off len)
  | slz (o : Option Owner) (a : Addr) (fl : Fl) (hf : fl = .ro ∨ fl = .full) : V g w o (.slice (some a) 0 0) (.sl [] 0 fl)      -- empty, wherever it lies

/-- How a world, and what is known of it, goes on. -/
structure St (g : Gh) (w : World) (g' : Gh) (w' : World) : Prop where
  os : w'.os = w.os
  tape : w'.tape = w.tape
  output : w'.output = w.output
  size : w.heap.size ≤ w'.heap.size
  cell : ∀ b i, b < w.heap.size → i < g.mark b → w'.cell? ⟨b, i, none⟩ = w.cell? ⟨b, i, none⟩
  mark : ∀ b, b < w.heap.size → g.mark b ≤ g'.mark b
  rho : ∀ (id b : Nat), g.ρ[id]? = some b → g'.ρ[id]? = some b

structure Keep (g : Gh) (w : World) (g' : Gh) (w' : World) (b : Nat) : Prop where
  ow : g'.ow b = g.ow b
  mark : g'.mark b = g.mark b
  heap : w'.heap[b]? = w.heap[b]?

theorem St.refl (g : Gh) (w : World) : St g w g w := ⟨rfl, rfl, rfl, Nat.le_refl _, fun _ _ _ _ => rfl, fun _ _ => Nat.le_refl _, fun _ _ h => h⟩

theorem St.trans {g g' g'' : Gh} {w w' w'' : World} (h : St g w g' w') (k : St g' w' g'' w'') : St g w g'' w'' where
  os := k.os.trans h.os
  tape := k.tape.trans h.tape
  output := k.output.trans h.output
  size := Nat.le_trans h.size k.size
  cell := fun b i hb hi => (k.cell b i (Nat.lt_of_lt_of_le hb h.size) (Nat.lt_of_lt_of_le hi (h.mark b hb))).trans (h.cell b i hb hi)
  mark := fun b hb => Nat.le_trans (h.mark b hb) (k.mark b (Nat.lt_of_lt_of_le hb h.size))
  rho := fun id b hi => k.rho id b (h.rho id b hi)

theorem lt_of_cell {w : World} {b i : Nat} {v : Value} (h : w.cell? ⟨b, i, none⟩ = some v) : b < w.heap.size := by
  unfold World.cell? at h
  cases hh : w.heap[b]? with
  | none => simp [hh] at h
  | some x => exact (Array.getElem?_eq_some_iff.1 hh).1

theorem lt_of_heap {w : World} {b : Nat} {x : Obj} (h : w.heap[b]? = some x) : b < w.heap.size := (Array.getElem?_eq_some_iff.1 h).1

theorem Gro.lt {w : World} {b cap es : Nat} (h : Gro w b cap es) : b < w.heap.size := by
  obtain ⟨cur, E, lo, hi, hh, _⟩ := h
  exact lt_of_heap hh

theorem Keep.cell {g g' : Gh} {w w' : World} {b : Nat} (h : Keep g w g' w' b) (i : Nat) : w'.cell? ⟨b, i, none⟩ = w.cell? ⟨b, i, none⟩ := by
  unfold World.cell?
  rw [h.heap]

theorem Keep.gro {g g' : Gh} {w w' : World} {b cap es : Nat} (h : Keep g w g' w' b) (k : Gro w b cap es) : Gro w' b cap es := by
  unfold Gro at *
  rw [h.heap]
  exact k

theorem Owner.sub_some {o : Option Owner} {i : Nat} {o' : Owner} (h : Owner.sub o i = some o') : ∃ q, o = some q ∧ q.root = o'.root := by
  cases o with
  | none => simp [Owner.sub] at h
  | some q => simp [Owner.sub] at h; subst h; exact ⟨q, rfl, rfl⟩

/-- All blocks that an owner's root has are kept. -/
def KeepRoot (g : Gh) (w : World) (g' : Gh) (w' : World) (o : Option Owner) : Prop :=
  ∀ q, o = some q → ∀ b q', b < w.heap.size → g.ow b = some q' → q'.root = q.root → Keep g w g' w' b

theorem KeepRoot.none (g : Gh) (w : World) (g' : Gh) (w' : World) : KeepRoot g w g' w' none := by
  intro q h; cases h

theorem KeepRoot.sub {g g' : Gh} {w w' : World} {o : Option Owner} (h : KeepRoot g w g' w' o) (i : Nat) : KeepRoot g w g' w' (Owner.sub o i) := by
  intro q hq b q' hb hw hr
  obtain ⟨p, hp, hpr⟩ := Owner.sub_some hq
  exact h p hp b q' hb hw (hr.trans hpr.symm)

theorem V.mono {g g' : Gh} {w w' : World} {o : Option Owner} {v : Value} {sv : SV} (h : V g w o v sv) (st : St g w g' w') (kp : KeepRoot g w g' w' o) : V g' w' o v sv := by
  induction h with
  | undef o v => exact .undef o v
  | bool o b => exact .bool o b
  | int o k n => exact .int o k n
  | str o s => exact .str o s
  | nilS o => exact .nilS o
  | sl o b off len cap xs fl f hlen hcell hone hx hf ih =>
    have key : (∀ i, i < xs.length → w'.cell? ⟨b, off + i, none⟩ = w.cell? ⟨b, off + i, none⟩) ∧ Fok g' w' o b off len cap xs.length fl := by
      cases fl with
      | ro =>
        rcases hf with h0 | hm
        · exact ⟨fun i hi => by omega, .inl h0⟩
        · refine ⟨fun i hi => st.cell b _ (lt_of_cell (hcell i hi)) (by omega), ?_⟩
          by_cases hn : xs.length = 0
          · exact .inl hn
          · exact .inr (Nat.le_trans hm (st.mark b (lt_of_cell (hcell 0 (by omega)))))
      | full =>
        obtain ⟨h1, h2⟩ := hf
        rcases h1 with h0 | hm
        · exact ⟨fun i hi => by omega, .inl h0, h2⟩
        · refine ⟨fun i hi => st.cell b _ (lt_of_cell (hcell i hi)) (by omega), ?_, h2⟩
          by_cases hn : xs.length = 0
          · exact .inl hn
          · exact .inr (Nat.le_trans hm (st.mark b (lt_of_cell (hcell 0 (by omega)))))
      | own es =>
        obtain ⟨⟨o', ho, hw⟩, h1, h2, h3, h4⟩ := hf
        have kb := kp o' ho b o' h4.lt hw rfl
        exact ⟨fun i _ => kb.cell _, ⟨o', ho, kb.ow.trans hw⟩, h1, h2, kb.mark.trans h3, kb.gro h4⟩
      | excl es =>
        obtain ⟨⟨o', ho, hw⟩, h1, h2, h3, h4⟩ := hf
        have kb := kp o' ho b o' h4.lt hw rfl
        exact ⟨fun i _ => kb.cell _, ⟨o', ho, kb.ow.trans hw⟩, h1, h2, kb.mark.trans h3, kb.gro h4⟩
    exact .sl o b off len cap xs fl f hlen (fun i hi => (key.1 i hi).trans (hcell i hi)) hone (fun i h => ih i h (KeepRoot.none _ _ _ _)) key.2
  | nilP o => exact .nilP o
  | ptr o id off b h => exact .ptr o id off b (st.rho _ _ h)
  | agg o cs xs hl hone hx ih => exact .agg o cs xs hl hone fun i h h' => ih i h h' (kp.sub i)
  | tup o cs xs hl hx ih => exact .tup o cs xs hl fun i h h' => ih i h h' (kp.sub i)
  | nilF o => exact .nilF o
  | fn o f cs ds xs ys hl hm hx hy ihx ihy => exact .fn o f cs ds xs ys hl hm (fun i h h' => ihx i h h' (KeepRoot.none _ _ _ _)) (fun i h h' => ihy i h h' (KeepRoot.none _ _ _ _))
  | nilM o => exact .nilM o
  | mp o id b h => exact .mp o id b (st.rho _ _ h)
  | slo o id off len b cap hlen h => exact .slo o id off len b cap hlen (st.rho _ _ h)
  | slz o a fl hf => exact .slz o a fl hf
  | elv o b off pos xs f hcell hone hx hm ih =>
    rcases hm with h0 | hm
    · exact .elv o b off pos xs f (fun i hi => by omega) hone (fun i h => ih i h (KeepRoot.none _ _ _ _)) (.inl h0)
    · refine .elv o b off pos xs f (fun i hi => (st.cell b _ (lt_of_cell (hcell i hi)) (by omega)).trans (hcell i hi)) hone (fun i h => ih i h (KeepRoot.none _ _ _ _)) ?_
      by_cases hn : xs.length = 0
      · exact .inl hn
      · exact .inr (Nat.le_trans hm (st.mark b (lt_of_cell (hcell 0 (by omega)))))

/-! What a place gives to be read: nothing that is owned. -/

def ro1 : SV → SV
  | .sl xs n (.own _) => .sl xs n .ro
  | .sl _ _ (.excl _) => .undef
  | .agg _ => .undef
  | .tup _ => .undef
  | v => v
def ro2 : SV → SV
  | .agg xs => .agg (xs.map ro1)
  | v => ro1 v
def ro : SV → SV
  | .tup xs => .tup (xs.map ro2)
  | v => ro2 v

theorem V.ro1 {g : Gh} {w : World} {o : Option Owner} {v : Value} {sv : SV} (h : V g w o v sv) (o' : Option Owner) : V g w o' v (ro1 sv) := by
  cases h with
  | undef => exact .undef _ _
  | bool => exact .bool _ _
  | int => exact .int _ _ _
  | str => exact .str _ _
  | nilS => exact .nilS _
  | sl o b off len cap xs fl f hlen hcell hone hx hf =>
    cases fl with
    | ro => exact .sl o' b off _ cap xs .ro f hlen hcell hone hx hf
    | full => exact .sl o' b off _ cap xs .full f hlen hcell hone hx hf
    | own es =>
      obtain ⟨_, h1, h2, h3, h4⟩ := hf
      exact .sl o' b off _ cap xs .ro f hlen hcell hone hx (.inr (by omega))
    | excl es => exact .undef _ _
  | nilP => exact .nilP _
  | ptr o id off b h => exact .ptr _ id off b h
  | agg o cs xs => exact .undef _ _
  | tup o cs xs => exact .undef _ _
  | nilF => exact .nilF _
  | fn o f cs ds xs ys hl hm hx hy => exact .fn _ f cs ds xs ys hl hm hx hy
  | nilM => exact .nilM _
  | mp o id b h => exact .mp _ id b h
  | elv o b off pos xs f hcell hone hx hm => exact .elv _ b off pos xs f hcell hone hx hm
  | slo o id off len b cap hlen h => exact .slo _ id off len b cap hlen h
  | slz o a fl hf => rcases hf with rfl | rfl <;> exact .slz _ a _ (by simp)

theorem V.ro2 {g : Gh} {w : World} {o : Option Owner} {v : Value} {sv : SV} (h : V g w o v sv) (o' : Option Owner) : V g w o' v (ro2 sv) := by
  by_cases ha : ∃ xs, sv = .agg xs
  · obtain ⟨xs, rfl⟩ := ha
    cases h with
    | agg _ cs _ hl hone hx =>
      refine .agg o' cs _ (by simpa using hl) hone fun i h h' => ?_
      rw [List.getElem_map]
      exact (hx i h (by omega)).ro1 _
  · have e : Sh.ro2 sv = Sh.ro1 sv := by
      unfold Sh.ro2; split
      · rename_i xs; exact absurd ⟨xs, rfl⟩ ha
      · rfl
    rw [e]
    exact h.ro1 o'

theorem V.ro {g : Gh} {w : World} {o : Option Owner} {v : Value} {sv : SV} (h : V g w o v sv) (o' : Option Owner) : V g w o' v (ro sv) := by
  by_cases ha : ∃ xs, sv = .tup xs
  · obtain ⟨xs, rfl⟩ := ha
    cases h with
    | tup _ cs _ hl hx =>
      refine .tup o' cs _ (by simpa using hl) fun i h h' => ?_
      rw [List.getElem_map]
      exact (hx i h (by omega)).ro2 _
  · have e : Sh.ro sv = Sh.ro2 sv := by
      unfold Sh.ro; split
      · rename_i xs; exact absurd ⟨xs, rfl⟩ ha
      · rfl
    rw [e]
    exact h.ro2 o'

/-- What nobody owns anybody may hold. -/
theorem V.free {g : Gh} {w : World} {v : Value} {sv : SV} {o : Option Owner} (h : V g w o v sv) : o = none → ∀ o', V g w o' v sv := by
  induction h with
  | undef o v => exact fun _ o' => .undef o' v
  | bool o b => exact fun _ o' => .bool o' b
  | int o k n => exact fun _ o' => .int o' k n
  | str o s => exact fun _ o' => .str o' s
  | nilS o => exact fun _ o' => .nilS o'
  | sl o b off len cap xs fl f hlen hcell hone hx hf ih =>
    intro ho o'
    cases fl with
    | ro => exact .sl o' b off _ cap xs .ro f hlen hcell hone hx hf
    | full => exact .sl o' b off _ cap xs .full f hlen hcell hone hx hf
    | own es => obtain ⟨⟨q, hq, _⟩, _⟩ := hf; rw [ho] at hq; cases hq
    | excl es => obtain ⟨⟨q, hq, _⟩, _⟩ := hf; rw [ho] at hq; cases hq
  | nilP o => exact fun _ o' => .nilP o'
  | ptr o id off b h => exact fun _ o' => .ptr o' id off b h
  | agg o cs xs hl hone hx ih => exact fun ho o' => .agg o' cs xs hl hone fun i h h' => ih i h h' (by rw [ho]; rfl) _
  | tup o cs xs hl hx ih => exact fun ho o' => .tup o' cs xs hl fun i h h' => ih i h h' (by rw [ho]; rfl) _
  | nilF o => exact fun _ o' => .nilF o'
  | fn o f cs ds xs ys hl hm hx hy ihx ihy => exact fun _ o' => .fn o' f cs ds xs ys hl hm hx hy
  | nilM o => exact fun _ o' => .nilM o'
  | mp o id b h => exact fun _ o' => .mp o' id b h
  | elv o b off pos xs f hcell hone hx hm ih => exact fun _ o' => .elv o' b off pos xs f hcell hone hx hm
  | slo o id off len b cap hlen h => exact fun _ o' => .slo o' id off len b cap hlen h
  | slz o a fl hf => exact fun _ o' => .slz o' a fl hf

end Go.Sh
