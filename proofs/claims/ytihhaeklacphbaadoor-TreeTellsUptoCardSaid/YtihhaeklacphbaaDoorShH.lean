/-
  The shadow machine, part H: what changes hands, new memory, appending.
-/
import Derived.Test.YtihhaeklacphbaaDoorShG
import Derived.Lib.ConvBytes
set_option linter.unusedSimpArgs false
set_option linter.unusedVariables false
namespace Go.Sh

/-- One operation done: what is shown of each. -/
def EffOk (P : Program) (g0 : Gh) (w0 : World) (s' : S) (a : Act) (w : World) (o : Oper) : Prop :=
  ∃ rv w' g', ((execOp a.eval o).run P w = .ok (.value rv) w' ∨ ((execOp a.eval o).run P w = .ok .skip w' ∧ rv = Go.undef)) ∧ Rel g0 w0 g' s' (a.put o.dst rv) w'

section
variable {P : Program} {g0 : Gh} {w0 : World} {g : Gh} {w : World} {s : S} {a : Act} {o : Oper}

theorem EffOk.pure (h : Rel g0 w0 g s a w) {r : SV} (hp : PvOk P g w a o r) : EffOk P g0 w0 (s.put o.dst r) a w o := by
  obtain ⟨rv, h1, h2⟩ := hp
  exact ⟨rv, w, g, .inl h1, h.put fun t _ => h2.free rfl _⟩

theorem get_lt {t : Nat} {v : SV} (h : s.get t = v) (hv : v ≠ .undef) : ∃ hl : t < s.env.length, s.env[t] = v := by
  rcases Nat.lt_or_ge t s.env.length with h' | h'
  · exact ⟨h', by simpa [S.get, List.getElem?_eq_getElem h'] using h⟩
  · simp [S.get, List.getElem?_eq_none h'] at h; exact absurd h.symm hv

theorem EnvOk.set_of {env : List SV} {tmps : Array Value} (h : EnvOk g w env tmps) {t : Nat} {v : SV} (hv : ∀ (h1 : t < tmps.size), V g w (slotO t) (tmps[t]'h1) v) : EnvOk g w (env.set t v) tmps := by
  refine ⟨by simpa using h.size, fun t' ht ht' => ?_⟩
  rw [List.getElem_set]
  split
  · rename_i e; subst e; exact hv ht
  · exact h.val t' ht (by simpa using ht')

/-- Owned by a slot, then by another. -/
theorem Rel.move (h : Rel g0 w0 g s a w) {t d : Nat} {v : SV} (ht : s.get t = v) (hv : v ≠ .undef) (hd : t ≠ d) :
    Rel g0 w0 (g.re (mv (.slot t) (.slot d))) { s with env := (s.env.set t (ro v)).set d v } (a.put (some d) (a.eval (.tmp t))) w := by
  obtain ⟨hlt, hg⟩ := get_lt ht hv
  have hlt' : t < a.tmps.size := by rw [h.env.size]; exact hlt
  have hev : a.eval (.tmp t) = a.tmps[t] := by simp [Act.eval, hlt']
  have hvt := h.env.val t hlt' hlt
  rw [hg] at hvt
  refine ⟨h.fr.trans (Gh.mv_fr g w (by simp)), h.inv.mv (by simp) (by simp), ?_, h.defers⟩
  have hre : ∀ x, x ≠ t → ∀ rv sv, V g w (slotO x) rv sv → V (g.re (mv (.slot t) (.slot d))) w (slotO x) rv sv := by
    intro x hx rv sv hv
    refine hv.relabel_same _ ?_
    intro q hq p
    cases hq
    simp only [mv]
    rw [if_neg (by simpa using hx)]
  have E1 : EnvOk (g.re (mv (.slot t) (.slot d))) w (s.env.set t (ro v)) a.tmps := by
    refine ⟨by simpa using h.env.size, fun x hx hx' => ?_⟩
    rw [List.getElem_set]
    split
    · rename_i e
      subst e
      exact ((hvt.ro none).relabel _ none (by intro q hq; cases hq)).free rfl _
    · rename_i e
      exact hre x (fun e'' => e e''.symm) _ _ (h.env.val x hx (by simpa using hx'))
  refine E1.put ?_
  rw [hev]
  refine hvt.relabel _ _ ?_
  intro q hq
  cases hq
  exact ⟨_, rfl, fun p => by simp [mv]⟩

/-- A new array that slot d owns. -/
theorem V.new {w' : World} {d : Nat} {E : TypeId} {lo hi : Nat} {C : Array Value} {xs : List SV} {n cap es : Nat} (hh : w'.heap = w.heap.push (.cells C E (lo, hi))) (ho : w'.os = w.os) (ht : w'.tape = w.tape) (hu : w'.output = w.output)
    (hn : xs.length = n * es) (hnc : n ≤ cap) (hC : cap * es ≤ C.size) (hfr : hi ≤ lo ∨ (C.size ≤ lo ∧ es = 1)) (hcap : cap ≤ maxLen) (hx : ∀ i (h : i < C.size) (h' : i < xs.length), (C[i]'h).oneCell' = true ∧ V g w none (C[i]'h) (xs[i]'h')) :
    V (g.own w.heap.size 0 ⟨.slot d, []⟩) w' (slotO d) (.slice (some ⟨w.heap.size, 0, none⟩) n cap) (.sl xs n (.excl es)) ∧ KeepAll g w (g.own w.heap.size 0 ⟨.slot d, []⟩) w' ∧ St g w (g.own w.heap.size 0 ⟨.slot d, []⟩) w' := by
  have hold : ∀ b, b < w.heap.size → w'.heap[b]? = w.heap[b]? := fun b hb => by rw [hh, Array.getElem?_push, if_neg (by omega)]
  have hnew : w'.heap[w.heap.size]? = some (.cells C E (lo, hi)) := by rw [hh, Array.getElem?_push, if_pos rfl]
  have hk := Gh.own_keep g w w' 0 ⟨.slot d, []⟩ hold
  have hst : St g w (g.own w.heap.size 0 ⟨.slot d, []⟩) w' := hk.st ho ht hu (by rw [hh]; simp) (fun _ _ h => h)
  refine ⟨?_, hk, hst⟩
  have hle : xs.length ≤ C.size := by rw [hn]; exact Nat.le_trans (Nat.mul_le_mul_right _ hnc) hC
  refine .sl _ w.heap.size 0 n cap xs (.excl es) (fun i => C.getD i Go.undef) hnc (fun i hi => ?_) (fun i hi => ?_) (fun i hi => ?_) ⟨⟨_, rfl, by simp [Gh.own]⟩, rfl, hn, by simp [Gh.own], C, E, lo, hi, hnew, hC, hfr, hcap⟩
  · rw [Nat.zero_add, cell_at hnew]
    simp [Array.getElem?_eq_getElem (show i < C.size by omega)]
  · have := (hx i (by omega) hi).1
    simpa [Array.getElem?_eq_getElem (show i < C.size by omega)] using this
  · have := (hx i (by omega) hi).2.mono hst (KeepRoot.none _ _ _ _)
    simpa [Array.getElem?_eq_getElem (show i < C.size by omega)] using this

theorem Rel.new (h : Rel g0 w0 g s a w) {w' : World} {E : TypeId} {lo hi : Nat} {C : Array Value} {xs : List SV} {n cap es : Nat} {dd : Option Nat} (hh : w'.heap = w.heap.push (.cells C E (lo, hi))) (ho : w'.os = w.os) (ht : w'.tape = w.tape) (hu : w'.output = w.output)
    (hn : xs.length = n * es) (hnc : n ≤ cap) (hC : cap * es ≤ C.size) (hfr : hi ≤ lo ∨ (C.size ≤ lo ∧ es = 1)) (hcap : cap ≤ maxLen) (hx : ∀ i (h : i < C.size) (h' : i < xs.length), (C[i]'h).oneCell' = true ∧ V g w none (C[i]'h) (xs[i]'h')) :
    ∃ g', Rel g0 w0 g' (s.put dd (.sl xs n (.excl es))) (a.put dd (.slice (some ⟨w.heap.size, 0, none⟩) n cap)) w' := by
  obtain ⟨h1, h2, h3⟩ := V.new (g := g) (d := dd.getD 0) hh ho ht hu hn hnc hC hfr hcap hx
  refine ⟨_, (h.grow h2 h3 rfl).put fun t ht => ?_⟩
  subst ht
  exact h1

/-- A string's bytes as cells. -/
theorem V.bytes {ow : Option Owner} (s : ByteArray) (i : Nat) (h : i < (s.data.map fun b => Value.int .u8 b.toNat).size) (h' : i < (s.data.toList.map fun b => SV.int .u8 b.toNat).length) :
    ((s.data.map fun b => Value.int .u8 b.toNat)[i]'h).oneCell' = true ∧ V g w ow ((s.data.map fun b => Value.int .u8 b.toNat)[i]'h) ((s.data.toList.map fun b => SV.int .u8 b.toNat)[i]'h') := by
  simp only [Array.getElem_map, List.getElem_map, Array.getElem_toList]
  exact ⟨rfl, .int _ _ _⟩

theorem eff_s2b (h : Rel g0 w0 g s a w) {src dst e : TypeId} {x : Operand} {l : List UInt8} {o1 : Option Owner} (ho : o.op = .convert src dst x) (hs : P.underlying src = some .string) (hd : P.underlying dst = some (.slice e)) (he : P.underlying e = some (.int .u8))
    (hx : V g w o1 (a.eval x) (.str l)) (hl : l.length ≤ 1073741824) : EffOk P g0 w0 (s.put o.dst (.sl (l.map fun b => .int .u8 b.toNat) l.length (.excl 1))) a w o := by
  obtain ⟨t, ht, rfl⟩ := hx.str_inv
  have hsz : t.size = t.data.toList.length := size_eq t
  have hcap := grownCap_ge w t.size 0 e
  have hcm : grownCap w t.size 0 e ≤ maxLen := grownCap_le_maxLen w t.size 0 e (by simp only [maxLen]; omega)
  have hCs : (Lib.bytesCells w e t).size = grownCap w t.size 0 e := by simp [Lib.bytesCells]; omega
  obtain ⟨g', hg'⟩ := h.new (dd := o.dst) (w' := Lib.bytesWorld w e t) (E := e) (lo := (Lib.bytesCells w e t).size) (hi := (Lib.bytesCells w e t).size + 1) (C := Lib.bytesCells w e t) (xs := t.data.toList.map fun b => .int .u8 b.toNat) (n := t.data.toList.length) (cap := grownCap w t.size 0 e) (es := 1)
    (by
      apply Array.ext_getElem?
      intro j
      rw [Array.getElem?_push]
      split
      · rename_i hj; subst hj; exact Lib.bytesWorld_at_new w e t
      · rename_i hj
        by_cases hlt : j < w.heap.size
        · exact Lib.bytesWorld_at_old w e t j hlt
        · rw [Array.getElem?_eq_none (by rw [Lib.bytesWorld_size]; omega), Array.getElem?_eq_none (by omega)])
    rfl rfl rfl (by simp) (by omega) (by omega) (.inr ⟨Nat.le_refl _, rfl⟩) hcm (fun i hi hi' => by
      simp at hi'
      have hi2 : i < (t.data.map fun b => Value.int .u8 b.toNat).size := by simp; exact hi'
      have e : (Lib.bytesCells w e t)[i] = (t.data.map fun b => Value.int .u8 b.toNat)[i] := by simp only [Lib.bytesCells]; rw [Array.getElem_append_left hi2]
      rw [e]
      exact V.bytes t i hi2 (by simp; exact hi'))
  refine ⟨_, _, g', .inl ?_, hg'⟩
  have hr := Lib.run_convert_string_bytes (P := P) w src dst e t hs hd he
  simp only [execOp, ho, ht, Sem.run_bind, hr, Result.andThen_ok, ← hsz]
  simp

end
end Go.Sh
