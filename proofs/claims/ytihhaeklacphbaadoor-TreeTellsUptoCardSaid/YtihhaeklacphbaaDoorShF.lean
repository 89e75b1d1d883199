/-
  The shadow machine, part F: more operations that change nothing.
-/
import Derived.Test.YtihhaeklacphbaaDoorShE
set_option linter.unusedSimpArgs false
set_option linter.unusedVariables false
namespace Go.Sh

section
variable {P : Program} {g : Gh} {w : World}

theorem pv_un {a : Act} {o : Oper} {op : UnOp} {t : TypeId} {x : Operand} {sx r : SV} {st : List Ob} {o1 : Option Owner} (ho : o.op = .unOp op t x) (hx : V g w o1 (a.eval x) sx) (h : pv st (.un op) [sx] = some r) : PvOk P g w a o r := by
  cases op <;> cases sx <;> simp only [pv, Option.some.injEq, reduceCtorEq] at h
  · subst h
    exact ⟨.int _ _, by simp [execOp, ho, hx.int_inv, Op.unary, Op.intArith], .int _ _ _⟩
  · subst h
    exact ⟨.bool _, by simp [execOp, ho, hx.bool_inv, Op.unary], .bool _ _⟩

theorem pv_cvI {a : Act} {o : Oper} {k : IntKind} {s t : TypeId} {x : Operand} {k' : IntKind} {n : Int} {o1 : Option Owner} (ho : o.op = .convert s t x) (hs : ∃ d, P.underlying s = some d) (ht : P.underlying t = some (.int k)) (hx : V g w o1 (a.eval x) (.int k' n)) :
    PvOk P g w a o (.int k (k.wrap n)) := by
  obtain ⟨d, hs⟩ := hs
  refine ⟨.int k (k.wrap n), ?_, .int _ _ _⟩
  simp only [execOp, ho, hx.int_inv, convert, Sem.run_bind, run_und hs, run_und ht, Result.andThen_ok]
  cases d <;> simp [Conv.intToInt]

theorem pv_nilc {a : Act} {o : Oper} {x : Operand} {sx r : SV} {st : List Ob} {o1 : Option Owner} (ho : o.op = .nilCheck x) (hx : V g w o1 (a.eval x) sx) (h : pv st .nilc [sx] = some r) : PvOk P g w a o r := by
  generalize hv : a.eval x = v at hx
  cases hx <;> simp only [pv, Option.some.injEq, reduceCtorEq] at h <;> subst h
  · rename_i hp
    exact ⟨_, by simp only [execOp, ho, hv]; rfl, .ptr _ _ _ _ hp⟩
  · rename_i hl hm hx hy
    exact ⟨_, by simp only [execOp, ho, hv]; rfl, .fn _ _ _ _ _ _ hl hm hx hy⟩

theorem addr_add (b off n : Nat) : (⟨b, off, none⟩ : Addr).add n = ⟨b, off + n, none⟩ := Addr.add_lit b off n

theorem run_fieldAt {t : TypeId} {fs : Array Field} {f : Nat} {fd : Field} {n : Nat} (ht : P.underlying t = some (.struct fs)) (hf : fs[f]? = some fd) (hn : sz P fd.type = some n) (h0 : n ≠ 0) (b off : Nat) :
    (Instr.fieldAt t (.pointer (some ⟨b, off, none⟩)) f).run P w = .ok (.pointer (some ⟨b, off + fd.offset, none⟩)) w := by
  simp [Instr.fieldAt, run_und ht, hf, Instr.sureAddr, fieldPlace, run_size hn, h0, addr_add]

theorem pv_fld {a : Act} {o : Oper} {t : TypeId} {x : Operand} {f : Nat} {fd : Field} {n : Nat} {sx r : SV} {st : List Ob} {o1 : Option Owner} (ho : o.op = .fieldAddr t x f) (hf : fieldOf P t f = some fd) (hn : sz P fd.type = some n) (h0 : n ≠ 0)
    (hx : V g w o1 (a.eval x) sx) (h : pv st (.fld fd.offset) [sx] = some r) : PvOk P g w a o r := by
  unfold fieldOf at hf
  split at hf
  · rename_i fs hu
    generalize hv : a.eval x = v at hx
    cases hx <;> simp only [pv, Option.some.injEq, reduceCtorEq] at h <;> subst h
    · rename_i hp
      exact ⟨_, by simp only [execOp, ho, hv, Sem.run_bind, run_fieldAt hu hf hn h0]; rfl, .ptr _ _ _ _ hp⟩
    · rename_i b off pos xs f' hcell hone hx hm
      refine ⟨_, by simp only [execOp, ho, hv, Sem.run_bind, run_fieldAt hu hf hn h0]; rfl, ?_⟩
      rw [Nat.add_assoc]
      exact .elv _ b off _ xs f' hcell hone hx hm
  · cases hf

theorem pv_idxS {a : Act} {o : Oper} {t : TypeId} {x i : Operand} {l : List UInt8} {k : IntKind} {n : Int} {r : SV} {st : List Ob} {o1 o2 : Option Owner} (ho : o.op = .index t x i) (ht : P.underlying t = some .string)
    (hx : V g w o1 (a.eval x) (.str l)) (hi : V g w o2 (a.eval i) (.int k n)) (h : pv st .idxS [.str l, .int k n] = some r) : PvOk P g w a o r := by
  obtain ⟨s, hs, rfl⟩ := hx.str_inv
  simp only [pv] at h
  split at h
  · rename_i h0
    simp only [Option.map_eq_some_iff] at h
    obtain ⟨b, hb, rfl⟩ := h
    refine ⟨.int .u8 b.toNat, ?_, .int _ _ _⟩
    have hb' : s[n.toNat]? = some b := by
      have hlt : n.toNat < s.data.toList.length := by
        rcases Nat.lt_or_ge n.toNat s.data.toList.length with h | h
        · exact h
        · rw [List.getElem?_eq_none h] at hb; cases hb
      have hlt' : n.toNat < s.size := by rw [size_eq]; exact hlt
      rw [List.getElem?_eq_getElem hlt] at hb
      rw [getElem?_pos s n.toNat hlt']
      simp only [Option.some.injEq] at hb ⊢
      rw [← hb]
      simp [ByteArray.getElem_eq_getElem_data]
    simp [execOp, ho, Instr.index, hs, hi.int_inv, asIntOf, run_und ht, h0, hb']
  · cases h

/-- A part of known cells. -/
theorem part_ok {t : TypeId} {d : TypeDesc} {n : Nat} (hd : P.underlying t = some d) (hn : sz P t = some n) {cs : Array Value} {xs : List SV} (hl : cs.size = xs.length) {o : Option Owner} (hone : ∀ i (h : i < cs.size), (cs[i]'h).oneCell' = true)
    (hx : ∀ i (h : i < cs.size) (h' : i < xs.length), V g w (Owner.sub o i) (cs[i]'h) (xs[i]'h')) {off : Nat} {r : SV} (h : partV n (isAgg P t) xs off = some r) :
    ∃ rv, (part t cs off).run P w = .ok rv w ∧ V g w none rv (ro r) := by
  unfold partV at h
  unfold part
  simp only [Sem.run_bind, run_isAgg hd, Result.andThen_ok]
  cases ha : isAgg P t with
  | true =>
    rw [ha] at h
    simp only [if_true] at h
    split at h
    · rename_i hb
      simp only [Option.some.injEq] at h
      subst h
      refine ⟨.agg (cs.extract off (off + n)), by simp [run_size hn], ?_⟩
      refine .agg none _ _ (by simp; omega) (fun i hi => ?_) (fun i hi hi' => ?_)
      · simp only [Array.getElem_extract]; exact hone _ _
      · simp only [Array.getElem_extract, List.getElem_map, List.getElem_take, List.getElem_drop]
        simp at hi hi'
        exact (hx (off + i) (by omega) (by omega)).ro1 _
    · cases h
  | false =>
    rw [ha] at h
    simp only [Bool.false_eq_true, if_false] at h
    have hlt : off < xs.length := by
      rcases Nat.lt_or_ge off xs.length with h' | h'
      · exact h'
      · rw [List.getElem?_eq_none h'] at h; cases h
    rw [List.getElem?_eq_getElem hlt] at h
    simp only [Option.some.injEq] at h
    subst h
    have hlt' : off < cs.size := by omega
    exact ⟨cs[off], by simp [Array.getElem?_eq_getElem hlt'], (hx off hlt' hlt).ro none⟩

theorem V.agg_inv {o : Option Owner} {v : Value} {xs : List SV} (h : V g w o v (.agg xs)) : ∃ cs : Array Value, v = .agg cs ∧ cs.size = xs.length ∧ (∀ i (h : i < cs.size), (cs[i]'h).oneCell' = true) ∧
    ∀ i (h : i < cs.size) (h' : i < xs.length), V g w (Owner.sub o i) (cs[i]'h) (xs[i]'h') := by
  cases h with
  | agg _ cs _ hl hone hx => exact ⟨cs, rfl, hl, hone, hx⟩

theorem und_of_sz {t : TypeId} {d : TypeDesc} (h : P.underlying t = some d) : ∃ d, P.underlying t = some d := ⟨d, h⟩

theorem pv_fldV {a : Act} {o : Oper} {t : TypeId} {x : Operand} {f : Nat} {fd : Field} {n : Nat} {d : TypeDesc} {sx r : SV} {st : List Ob} {o1 : Option Owner} (ho : o.op = .field t x f) (hf : fieldOf P t f = some fd) (hn : sz P fd.type = some n) (hd : P.underlying fd.type = some d)
    (hx : V g w o1 (a.eval x) sx) (h : pv st (.fldV fd.offset n (isAgg P fd.type)) [sx] = some r) : PvOk P g w a o r := by
  unfold fieldOf at hf
  split at hf
  · rename_i fs hu
    cases sx <;> simp only [pv, reduceCtorEq] at h
    simp only [Option.map_eq_some_iff] at h
    obtain ⟨r', h, rfl⟩ := h
    obtain ⟨cs, hv, hl, hone, hx⟩ := hx.agg_inv
    obtain ⟨rv, h1, h2⟩ := part_ok (P := P) hd hn hl hone hx h
    exact ⟨rv, by simp [execOp, ho, hv, Instr.field, run_und hu, hf, asAgg, h1], h2⟩
  · cases hf

theorem pv_idxV {a : Act} {o : Oper} {t e : TypeId} {x i : Operand} {es len : Nat} {d : TypeDesc} {sx si r : SV} {st : List Ob} {o1 o2 : Option Owner} (ho : o.op = .index t x i) (ht : P.underlying t = some (.array len e)) (hn : sz P e = some es) (hd : P.underlying e = some d)
    (hx : V g w o1 (a.eval x) sx) (hi : V g w o2 (a.eval i) si) (h : pv st (.idxV es len (isAgg P e)) [sx, si] = some r) : PvOk P g w a o r := by
  cases sx <;> cases si <;> simp only [pv, reduceCtorEq] at h
  rename_i xs k n
  split at h
  · rename_i hb
    simp only [Option.map_eq_some_iff] at h
    obtain ⟨r', h, rfl⟩ := h
    obtain ⟨cs, hv, hl, hone, hx⟩ := hx.agg_inv
    obtain ⟨rv, h1, h2⟩ := part_ok (P := P) hd hn hl hone hx h
    refine ⟨rv, ?_, h2⟩
    simp [execOp, ho, hv, Instr.index, hi.int_inv, asIntOf, run_und ht, run_size hn, hb.1, hb.2, h1]
  · cases h

theorem pv_idxP {a : Act} {o : Oper} {t e : TypeId} {x i : Operand} {es len : Nat} {sx si r : SV} {st : List Ob} {o1 o2 : Option Owner} (ho : o.op = .indexAddr t x i) (ht : P.underlying t = some (.array len e)) (hn : sz P e = some es)
    (hx : V g w o1 (a.eval x) sx) (hi : V g w o2 (a.eval i) si) (h : pv st (.idxP es len) [sx, si] = some r) : PvOk P g w a o r := by
  generalize hv : a.eval x = v at hx
  cases hx <;> cases si <;> simp only [pv, reduceCtorEq] at h
  rename_i id off b hp k n
  split at h
  · rename_i hb
    simp only [Option.some.injEq] at h
    subst h
    exact ⟨_, by simp [execOp, ho, hv, Instr.indexAt, hi.int_inv, asIntOf, run_und ht, run_size hn, hb.1, hb.2, Instr.sureAddr, addr_add], .ptr _ _ _ _ hp⟩
  · cases h

theorem pv_idxA {a : Act} {o : Oper} {t e : TypeId} {x i : Operand} {es : Nat} {sx si r : SV} {st : List Ob} {o1 o2 : Option Owner} (ho : o.op = .indexAddr t x i) (ht : P.underlying t = some (.slice e)) (hn : sz P e = some es)
    (hx : V g w o1 (a.eval x) sx) (hi : V g w o2 (a.eval i) si) (h : pv st (.idxA es) [sx, si] = some r) : PvOk P g w a o r := by
  generalize hv : a.eval x = v at hx
  cases hx <;> cases si <;> simp only [pv, reduceCtorEq] at h
  rotate_left
  · rename_i id off len b cap hlen hid k n
    split at h
    · rename_i hb
      simp only [Option.some.injEq] at h
      subst h
      refine ⟨.pointer (some ⟨b, off + n.toNat * es, none⟩), ?_, .ptr _ _ _ _ hid⟩
      simp [execOp, ho, hv, Instr.indexAt, hi.int_inv, asIntOf, run_und ht, run_size hn, hb.1, hb.2, addr_add]
    · cases h
  · rename_i ad fl hf k n
    split at h
    · rename_i hb
      exfalso
      have h1 := hb.1
      have h2 := hb.2.1
      omega
    · cases h
  rename_i b off len cap xs fl f hlen hcell hone hx hf k n
  split at h
  · rename_i hb
    have hrun : (execOp a.eval o).run P w = .ok (.value (.pointer (some ⟨b, off + n.toNat * es, none⟩))) w := by
      simp [execOp, ho, hv, Instr.indexAt, hi.int_inv, asIntOf, run_und ht, run_size hn, hb.1, hb.2.1, addr_add]
    cases fl with
    | excl _ => cases h
    | ro =>
      simp only [Option.some.injEq] at h
      subst h
      exact ⟨_, hrun, .elv none b off _ xs f hcell hone hx hf⟩
    | full =>
      simp only [Option.some.injEq] at h
      subst h
      exact ⟨_, hrun, .elv none b off _ xs f hcell hone hx hf.1⟩
    | own _ =>
      simp only [Option.some.injEq] at h
      subst h
      exact ⟨_, hrun, .elv none b off _ xs f hcell hone hx (.inr (by have := hf.2.1; have := hf.2.2.2.1; omega))⟩
  · cases h

theorem pv_lenS {a : Act} {o : Oper} {t : TypeId} {x : Operand} {l : List UInt8} {o1 : Option Owner} (ho : o.op = .call { callee := .builtin .len, args := #[x], argTypes := #[t] }) (ht : P.underlying t = some .string) (hx : V g w o1 (a.eval x) (.str l)) :
    PvOk P g w a o (.int .i64 l.length) := by
  obtain ⟨s, hs, rfl⟩ := hx.str_inv
  refine ⟨.int .i64 s.data.toList.length, ?_, .int _ _ _⟩
  rw [← size_eq]
  simp [execOp, ho, resolve, invoke, builtin, Builtin.len_, run_und ht, hs, goInt]

theorem pv_lenL {a : Act} {o : Oper} {t e : TypeId} {x : Operand} {sx r : SV} {st : List Ob} {o1 : Option Owner} (ho : o.op = .call { callee := .builtin .len, args := #[x], argTypes := #[t] }) (ht : P.underlying t = some (.slice e)) (hx : V g w o1 (a.eval x) sx)
    (h : pv st .lenL [sx] = some r) : PvOk P g w a o r := by
  generalize hv : a.eval x = v at hx
  cases hx <;> simp only [pv, Option.some.injEq, reduceCtorEq] at h <;> subst h
  · exact ⟨_, by simp [execOp, ho, resolve, invoke, builtin, Builtin.len_, run_und ht, hv, goInt], .int _ _ _⟩
  · exact ⟨_, by simp [execOp, ho, resolve, invoke, builtin, Builtin.len_, run_und ht, hv, goInt], .int _ _ _⟩
  · exact ⟨_, by simp [execOp, ho, resolve, invoke, builtin, Builtin.len_, run_und ht, hv, goInt], .int _ _ _⟩
  · exact ⟨_, by simp [execOp, ho, resolve, invoke, builtin, Builtin.len_, run_und ht, hv, goInt], .int _ _ _⟩

theorem pv_lenA {a : Act} {o : Oper} {t e : TypeId} {n : Nat} {x : Operand} (ho : o.op = .call { callee := .builtin .len, args := #[x], argTypes := #[t] }) (ht : P.underlying t = some (.array n e)) : PvOk P g w a o (.int .i64 n) := by
  refine ⟨.int .i64 n, ?_, .int _ _ _⟩
  simp [execOp, ho, resolve, invoke, builtin, Builtin.len_, run_und ht, goInt]

theorem pv_mm {a : Act} {o : Oper} {t u : TypeId} {x y : Operand} {k k' : IntKind} {m n : Int} {mx : Bool} {o1 o2 : Option Owner} (ho : o.op = .call { callee := .builtin (if mx then .max else .min), args := #[x, y], argTypes := #[t, u] })
    (hx : V g w o1 (a.eval x) (.int k m)) (hy : V g w o2 (a.eval y) (.int k' n)) : PvOk P g w a o (.int k (if mx then (if n > m then n else m) else (if n < m then n else m))) := by
  refine ⟨.int k _, ?_, .int _ _ _⟩
  cases mx <;> simp [execOp, ho, resolve, invoke, builtin, Builtin.max_, Builtin.min_, Builtin.max2, Builtin.min2, hx.int_inv, hy.int_inv]


theorem run_loadCells_fn (b off n : Nat) (f : Nat → Value) (h : ∀ i, i < n → w.cell? ⟨b, off + i, none⟩ = some (f i)) : (loadCells ⟨b, off, none⟩ n).run P w = .ok ((List.range n).map f).toArray w := by
  have := run_loadCells_list (P := P) w ⟨b, off, none⟩ ((List.range n).map f) (fun j v hj => by
    rw [addr_add]
    rw [List.getElem?_map] at hj
    simp only [Option.map_eq_some_iff] at hj
    obtain ⟨i, hi, rfl⟩ := hj
    obtain ⟨h1, rfl⟩ := List.getElem?_eq_some_iff.1 hi
    simp at h1 ⊢
    exact h j h1)
  simpa using this

/-- A load of known cells. -/
theorem load_ok {t : TypeId} {d : TypeDesc} {n : Nat} (hd : P.underlying t = some d) (hn : sz P t = some n) {b off : Nat} {xs : List SV} {own : Nat → Option Owner} (hx : ∀ i (h : i < xs.length), ∃ v, w.cell? ⟨b, off + i, none⟩ = some v ∧ v.oneCell' = true ∧ V g w (own i) v (xs[i]'h))
    {r : SV} (hl : xs.length = n) (h : (if isAgg P t then some (ro (.agg xs)) else (xs[0]?).map ro) = some r) :
    ∃ rv, (Instr.loadAt t (.pointer (some ⟨b, off, none⟩))).run P w = .ok rv w ∧ V g w none rv r := by
  have hc : ∃ f : Nat → Value, ∀ i, i < n → w.cell? ⟨b, off + i, none⟩ = some (f i) := by
    refine ⟨fun i => (w.cell? ⟨b, off + i, none⟩).getD undef, fun i hi => ?_⟩
    obtain ⟨v, hv, _⟩ := hx i (by omega)
    simp [hv]
  obtain ⟨f, hf⟩ := hc
  cases ha : isAgg P t with
  | true =>
    rw [ha] at h
    simp only [if_true, Option.some.injEq] at h
    subst h
    refine ⟨.agg ((List.range n).map f).toArray, ?_, ?_⟩
    · simp [Instr.loadAt, Instr.sureAddr, loadVar, run_isAgg hd, ha, run_size hn, run_loadCells_fn (P := P) b off n f hf]
    · refine .agg none _ _ (by simp [hl]) (fun i hi => ?_) (fun i hi hi' => ?_)
      · simp at hi
        obtain ⟨v, hv, h1, _⟩ := hx i (by omega)
        have := hf i hi
        rw [hv] at this
        simp only [Option.some.injEq] at this
        simp [← this, h1]
      · simp at hi
        obtain ⟨v, hv, h1, h2⟩ := hx i (by omega)
        have := hf i hi
        rw [hv] at this
        simp only [Option.some.injEq] at this
        simp only [List.getElem_toArray, List.getElem_map, List.getElem_range, ← this]
        exact h2.ro1 _
  | false =>
    rw [ha] at h
    simp only [Bool.false_eq_true, if_false] at h
    have h0 : 0 < xs.length := by
      rcases Nat.eq_zero_or_pos xs.length with h' | h'
      · rw [List.getElem?_eq_none (by omega)] at h; cases h
      · exact h'
    rw [List.getElem?_eq_getElem h0] at h
    simp only [Option.map_some, Option.some.injEq] at h
    subst h
    obtain ⟨v, hv, h1, h2⟩ := hx 0 h0
    refine ⟨v, ?_, h2.ro none⟩
    simp at hv
    simp [Instr.loadAt, Instr.sureAddr, loadVar, run_isAgg hd, ha, hv]

theorem cell_at {b i : Nat} {cur : Array Value} {E : TypeId} {fr : Nat × Nat} (h : w.heap[b]? = some (.cells cur E fr)) : w.cell? ⟨b, i, none⟩ = cur[i]? := cell_of_row w b i cur E fr h

/-- What an object's cells are. -/
theorem ob_cells {st : List Ob} (hI : Inv g w st) {id b off n : Nat} {l : List SV} (hp : g.ρ[id]? = some b) (h : rdCells st id off n = some l) : l.length = n ∧
    ∀ i (hi : i < l.length), ∃ v, w.cell? ⟨b, off + i, none⟩ = some v ∧ v.oneCell' = true ∧ V g w (cellO id (off + i)) v (l[i]'hi) := by
  unfold rdCells at h
  split at h
  · rename_i L hs
    split at h
    · rename_i hlt
      simp only [Option.some.injEq] at h
      subst h
      obtain ⟨cur, E, lo, hi0, hb, hsz, hc⟩ := hI.cells id b L hp hs
      refine ⟨by simp; omega, fun i hi => ?_⟩
      simp at hi
      have hi' : off + i < L.length := by omega
      have hi'' : off + i < cur.size := by omega
      refine ⟨cur[off + i], ?_, (hc _ hi'' hi').1, ?_⟩
      · rw [cell_at hb, Array.getElem?_eq_getElem hi'']
      · simp only [List.getElem_take, List.getElem_drop]
        exact (hc _ hi'' hi').2
    · cases h
  · cases h

theorem load_run {v : Value} {t : TypeId} {n : Nat} {d : TypeDesc} {sx r : SV} {st : List Ob} {o1 : Option Owner} (hI : Inv g w st) (hd : P.underlying t = some d) (hn : sz P t = some n)
    (hx : V g w o1 v sx) (h : pv st (.load n (isAgg P t)) [sx] = some r) : ∃ rv, (Instr.loadAt t v).run P w = .ok rv w ∧ V g w none rv r := by
  cases hx <;> simp only [pv, reduceCtorEq] at h
  · rename_i id off b hp
    obtain ⟨l, h1, h⟩ := Option.bind_eq_some_iff.1 h
    obtain ⟨hll, hcc⟩ := ob_cells hI hp h1
    exact load_ok (own := fun i => cellO id (off + i)) hd hn hcc hll h
  · rename_i b off pos xs f hcell hone hxx hm
    simp only [Option.map_eq_some_iff] at h
    obtain ⟨r', h, rfl⟩ := h
    unfold partV at h
    cases ha : isAgg P t with
    | true =>
      rw [ha] at h
      simp only [if_true] at h
      split at h
      · rename_i hlt
        simp only [Option.some.injEq] at h
        subst h
        refine load_ok (xs := (xs.drop pos).take n) (own := fun _ => none) hd hn (fun i hi => ?_) (by simp; omega) (by rw [ha]; rfl)
        simp at hi
        refine ⟨f (pos + i), ?_, hone _ (by omega), ?_⟩
        · rw [Nat.add_assoc]; exact hcell _ (by omega)
        · simp only [List.getElem_take, List.getElem_drop]
          exact hxx _ (by omega)
      · cases h
    | false =>
      rw [ha] at h
      simp only [Bool.false_eq_true, if_false] at h
      have hlt : pos < xs.length := by
        rcases Nat.lt_or_ge pos xs.length with h' | h'
        · exact h'
        · rw [List.getElem?_eq_none h'] at h; cases h
      rw [List.getElem?_eq_getElem hlt] at h
      simp only [Option.some.injEq] at h
      subst h
      refine ⟨f pos, ?_, (hxx pos hlt).ro none⟩
      simp [Instr.loadAt, Instr.sureAddr, loadVar, run_isAgg hd, ha, hcell pos hlt]

theorem pv_load {a : Act} {o : Oper} {t : TypeId} {x : Operand} {n : Nat} {d : TypeDesc} {sx r : SV} {st : List Ob} {o1 : Option Owner} (hI : Inv g w st) (ho : o.op = .load t x) (hd : P.underlying t = some d) (hn : sz P t = some n)
    (hx : V g w o1 (a.eval x) sx) (h : pv st (.load n (isAgg P t)) [sx] = some r) : PvOk P g w a o r := by
  obtain ⟨rv, h1, h2⟩ := load_run hI hd hn hx h
  exact ⟨rv, by simp [execOp, ho, h1], h2⟩

theorem pv_slcS {a : Act} {o : Oper} {t : TypeId} {x : Operand} {lo hi : Option Operand} {l : List UInt8} {rs : List SV} {r : SV} {st : List Ob} {o1 : Option Owner} (ho : o.op = .slice t x lo hi none) (ht : P.underlying t = some .string)
    (hx : V g w o1 (a.eval x) (.str l)) (hr : rs.length = (lo.toList ++ hi.toList).length) (hv : ∀ i (h : i < rs.length) (h' : i < (lo.toList ++ hi.toList).length), ∃ o', V g w o' (a.eval ((lo.toList ++ hi.toList)[i]'h')) (rs[i]'h))
    (h : pv st (.slcS lo.isSome hi.isSome) (.str l :: rs) = some r) : PvOk P g w a o r := by
  obtain ⟨s, hs, rfl⟩ := hx.str_inv
  have key : ∀ (L H : Int), 0 ≤ L → L ≤ H → H ≤ s.data.toList.length → V g w none (.string (s.extract L.toNat H.toNat)) (.str ((s.data.toList.take H.toNat).drop L.toNat)) := by
    intro L H h0 h1 h2
    apply V.mk_str
    rw [Lib.extract_data, List.drop_take]
  have e : s.data.toList.length = s.size := (size_eq s).symm
  cases lo with
  | none =>
    cases hi with
    | none =>
      have e0 : rs = [] := List.eq_nil_of_length_eq_zero (by simpa using hr)
      subst e0
      simp [pv] at h
      subst h
      refine ⟨.string (s.extract 0 s.size), ?_, ?_⟩
      · simp [execOp, ho, Instr.sliceAt, run_und ht, Instr.slice, hs, Instr.sliceBounds]
      · have := key 0 s.size (by omega) (by omega) (by omega)
        simpa [e] using this
    | some y =>
      cases rs with
      | nil => simp at hr
      | cons r1 rs =>
        obtain ⟨o', h1⟩ := hv 0 (by simp) (by simp)
        simp at h1
        simp only [pv, Option.isSome_none, Option.isSome_some, Bool.false_eq_true, if_false, if_true, List.getElem?_cons_zero, Option.bind_some, Option.isSome_some] at h
        cases r1 <;> simp [intOfV] at h
        rename_i k n
        obtain ⟨⟨h2, h3⟩, rfl⟩ := h
        refine ⟨.string (s.extract 0 n.toNat), ?_, ?_⟩
        · simp [execOp, ho, Instr.sliceAt, run_und ht, Instr.slice, hs, Instr.sliceBounds, Instr.sliceBound, h1.int_inv, asIntOf]
          intro h4
          have := h4 h2
          omega
        · have := key 0 n (by omega) (by omega) (by omega)
          simpa using this
  | some y =>
    cases rs with
    | nil => simp at hr
    | cons r1 rs =>
      obtain ⟨o', h1⟩ := hv 0 (by simp) (by simp)
      simp at h1
      cases hi with
      | none =>
        simp only [pv, Option.isSome_none, Option.isSome_some, Bool.false_eq_true, if_false, if_true, List.getElem?_cons_zero, Option.bind_some] at h
        cases r1 <;> simp [intOfV] at h
        rename_i k n
        obtain ⟨⟨h2, h3⟩, rfl⟩ := h
        refine ⟨.string (s.extract n.toNat s.size), ?_, ?_⟩
        · simp [execOp, ho, Instr.sliceAt, run_und ht, Instr.slice, hs, Instr.sliceBounds, Instr.sliceBound, h1.int_inv, asIntOf]
          intro h4
          have := h4 h2
          omega
        · have := key n s.size (by omega) (by omega) (by omega)
          simpa [e] using this
      | some z =>
        cases rs with
        | nil => simp at hr
        | cons r2 rs =>
          obtain ⟨o'', h2⟩ := hv 1 (by simp) (by simp)
          simp at h2
          simp only [pv, Option.isSome_none, Option.isSome_some, Bool.false_eq_true, if_false, if_true, List.getElem?_cons_zero, List.getElem?_cons_succ, Option.bind_some] at h
          cases r1 <;> simp [intOfV] at h
          cases r2 <;> simp [intOfV] at h
          rename_i k n k2 m
          obtain ⟨⟨h3, h4, h5⟩, rfl⟩ := h
          refine ⟨.string (s.extract n.toNat m.toNat), ?_, ?_⟩
          · simp [execOp, ho, Instr.sliceAt, run_und ht, Instr.slice, hs, Instr.sliceBounds, Instr.sliceBound, h1.int_inv, h2.int_inv, asIntOf]
            rw [if_pos (show 0 ≤ m ∧ m ≤ (s.size : Int) from ⟨by omega, by omega⟩)]
            simp
            intro h6
            have := h6 h3
            omega
          · exact key n m (by omega) (by omega) (by omega)

end
end Go.Sh
