/-
  The shadow machine, part N: structs built; objects: made, written.
-/
import Derived.Test.YtihhaeklacphbaaDoorShM
set_option linter.unusedSimpArgs false
set_option linter.unusedVariables false
namespace Go.Sh

section
variable {P : Program} {g0 : Gh} {w0 : World} {g : Gh} {w : World} {s : S} {a : Act} {o : Oper}

theorem Cs.agg {C : Array Value} {xs : List SV} (h : Cs g w C xs) : V g w none (.agg C) (.agg xs) :=
  .agg none C xs h.1 (fun i hi => (h.2 i hi (by rw [← h.1]; exact hi)).1) (fun i hi hi' => (h.2 i hi hi').2)

theorem eff_bld (h : Rel g0 w0 g s a w) {t : TypeId} {parts : Array (Nat × Operand)} {zs : List SV} {at_ : List (Nat × Nat)} {as : List Arg} {place : Nat → Option (Nat × Nat)} (ho : o.op = .build t parts) (hz : zeroL P t = some zs)
    (hpl : ∀ (z : Value) C, (P.info? t).bind (·.zero) = some z → Instr.fill place z.cells (parts.toList.map fun p => (p.1, a.eval p.2)) = some C → (Instr.build t (parts.map fun p => (p.1, a.eval p.2))).run P w = .ok (.agg C) w)
    (hat : at_.length = parts.size ∧ ∀ j (h : j < parts.size) (h' : j < at_.length), place (parts[j]'h).1 = some (at_[j]'h'))
    (hl : as.length = (parts.toList.map (·.2)).length) (hA : ∀ j (h : j < as.length) (h' : j < (parts.toList.map (·.2)).length), AOk g w s a ((parts.toList.map (·.2))[j]'h') (as[j]'h))
    {r : SV} {wb : List (Nat × SV)} {st' : List Ob} (he : ev s.st (.bld zs at_) (as.map (Arg.raw s)) = some (r, wb, st')) :
    EffOk P g0 w0 (S.put { env := wback as s.env wb, st := st' } o.dst r) a w o := by
  have he' : (if at_.length = (as.map (Arg.raw s)).length then (fillV zs ((at_.zip (as.map (Arg.raw s))).map fun (p, v) => (p.1, p.2, Sh.got v))).map fun xs => (SV.agg xs, pubs (as.map (Arg.raw s)), s.st) else none) = some (r, wb, st') := by
    cases as <;> exact he
  clear he
  split at he'
  · rename_i hc
    simp only [Option.map_eq_some_iff, Prod.mk.injEq] at he'
    obtain ⟨ys, hf, rfl, rfl, rfl⟩ := he'
    obtain ⟨g1, hR, hV⟩ := h.gots hl hA
    obtain ⟨i, z, hi, hzz⟩ := zero_some hz
    have hz0 := zero_ok (g := g1) (w := w) hi hzz hz
    obtain ⟨C, hC, hCs⟩ := fill_ok (place := place) (parts.toList.map fun p => (p.1, a.eval p.2)) _ _ _ ys (by simp at hl hc ⊢; omega) (fun j hj hj' => by
      simp only [List.length_map] at hj hl
      have := hV j (by omega) (by simpa using hj)
      have h2 := hat.2 j (by simpa using hj) (by simp at hj hj'; omega)
      simp only [List.getElem_map, List.getElem_zip]
      refine ⟨by simpa using h2, by simpa using this⟩) hz0 hf
    refine ⟨.agg C, w, g1, .inl ?_, hR.put fun _ _ => hCs.agg.free rfl _⟩
    have := hpl z C (by simp [hi, hzz]) hC
    have e : (parts.map fun (p : Nat × Operand) => match p with | (i, x) => (i, a.eval x)) = parts.map fun p => (p.1, a.eval p.2) := rfl
    simp only [execOp, ho, Sem.run_bind, e, this]
    rfl
  · cases he'

/-- A new object. -/
theorem Rel.newOb (h : Rel g0 w0 g s a w) {C : Array Value} {xs : List SV} (E : TypeId) (hC : Cs g w C xs) :
    ∃ g', Rel g0 w0 g' { s with st := s.st ++ [.cells xs] } a (w.alloc (.cells C E)) ∧ g'.ρ[s.st.length]? = some w.heap.size := by
  let g' : Gh := { mark := fun x => if x = w.heap.size then 0 else g.mark x, ow := fun x => if x = w.heap.size then some ⟨.obj s.st.length, []⟩ else g.ow x, ρ := g.ρ ++ [w.heap.size] }
  have hold : ∀ b, b < w.heap.size → (w.alloc (.cells C E)).heap[b]? = w.heap[b]? := fun b hb => by show (w.heap.push _)[b]? = _; rw [Array.getElem?_push, if_neg (by omega)]
  have hnew : (w.alloc (.cells C E)).heap[w.heap.size]? = some (.cells C E (0, 0)) := by show (w.heap.push _)[w.heap.size]? = _; rw [Array.getElem?_push, if_pos rfl]
  have hk : KeepAll g w g' (w.alloc (.cells C E)) := fun b hb => ⟨by simp [g', Nat.ne_of_lt hb], by simp [g', Nat.ne_of_lt hb], hold b hb⟩
  have hlen : g.ρ.length = s.st.length := h.inv.len
  have hρ : ∀ (id b : Nat), g.ρ[id]? = some b → g'.ρ[id]? = some b := fun id b hi => by
    have := (List.getElem?_eq_some_iff.1 hi).1
    show (g.ρ ++ [w.heap.size])[id]? = _
    rw [List.getElem?_append_left this]; exact hi
  have st : St g w g' (w.alloc (.cells C E)) := hk.st rfl rfl rfl (by simp) hρ
  have hcase : ∀ (id b : Nat), g'.ρ[id]? = some b → g.ρ[id]? = some b ∨ id = s.st.length ∧ b = w.heap.size := by
    intro id b hi
    change (g.ρ ++ [w.heap.size])[id]? = _ at hi
    by_cases hl : id < g.ρ.length
    · rw [List.getElem?_append_left hl] at hi; exact .inl hi
    · rw [List.getElem?_append_right (by omega)] at hi
      right
      have h0 : id - g.ρ.length = 0 := by
        rcases Nat.eq_zero_or_pos (id - g.ρ.length) with h' | h'
        · exact h'
        · rw [List.getElem?_eq_none (by simp; omega)] at hi; cases hi
      rw [h0] at hi
      simp at hi
      exact ⟨by omega, hi.symm⟩
  refine ⟨g', ⟨h.fr.trans (hk.fr st), ?_, h.env.mono st fun t => hk.root _, h.defers⟩, by show (g.ρ ++ [w.heap.size])[s.st.length]? = _; rw [← hlen]; simp⟩
  refine ⟨by simp [g', hlen], fun id b hi => ?_, fun id b l hi hl => ?_, fun id b l hi hl => ?_⟩
  · rcases hcase id b hi with h1 | ⟨rfl, rfl⟩
    · obtain ⟨h2, h3, h4⟩ := h.inv.obj id b h1
      exact ⟨Nat.lt_of_lt_of_le h2 st.size, (hk b h2).mark.trans h3, (hk b h2).ow.trans h4⟩
    · exact ⟨by simp, by simp [g'], by simp [g']⟩
  · rcases hcase id b hi with h1 | ⟨rfl, rfl⟩
    · have h2 := (List.getElem?_eq_some_iff.1 h1).1
      rw [List.getElem?_append_left (by omega)] at hl
      exact (h.inv.cells id b l h1 hl).mono st (hk b (h.inv.obj id b h1).1).heap (fun i => hk.root _)
    · rw [List.getElem?_append_right (Nat.le_refl _)] at hl
      simp at hl
      subst hl
      exact ⟨C, E, 0, 0, hnew, ⟨Nat.le_of_eq hC.1.symm, .inl (Nat.le_refl _)⟩, fun i hi hi' => ⟨(hC.2 i hi hi').1, ((hC.2 i hi hi').2.mono st (KeepRoot.none _ _ _ _)).free rfl _⟩⟩
  · rcases hcase id b hi with h1 | ⟨rfl, rfl⟩
    · have h2 := (List.getElem?_eq_some_iff.1 h1).1
      rw [List.getElem?_append_left (by omega)] at hl
      exact (h.inv.map id b l h1 hl).mono st (hk b (h.inv.obj id b h1).1).heap
    · rw [List.getElem?_append_right (Nat.le_refl _)] at hl
      simp at hl

/-- A slice literal that is an object from the first. -/
theorem eff_bslO (h : Rel g0 w0 g s a w) {t e : TypeId} {len : Nat} {parts : Array (Nat × Operand)} {i : TypeInfo} {zs : List SV} {as : List Arg} (ho : o.op = .buildSlice t len parts) (ht : P.underlying t = some (.slice e)) (hi : P.info? e = some i) (hz : zeroL P e = some zs) (hsz : i.size = zs.length) (h0 : 0 < i.size)
    (hbig : len * i.size ≤ 16777216) (hl : as.length = (parts.toList.map (·.2)).length) (hA : ∀ j (h : j < as.length) (h' : j < (parts.toList.map (·.2)).length), AOk g w s a ((parts.toList.map (·.2))[j]'h') (as[j]'h))
    {r : SV} {wb : List (Nat × SV)} {st' : List Ob} (he : ev s.st (.bslO i.size len zs (parts.toList.map (·.1))) (as.map (Arg.raw s)) = some (r, wb, st')) :
    EffOk P g0 w0 (S.put { env := wback as s.env wb, st := st' } o.dst r) a w o := by
  have he' : (if (parts.toList.map (·.1)).length = (as.map (Arg.raw s)).length ∧ (parts.toList.map (·.1)).all (· < len) then
      (fillV (rep len zs) (((parts.toList.map (·.1)).zip (as.map (Arg.raw s))).map fun (j, v) => (j * i.size, i.size, Sh.got v))).map fun xs => (SV.slo s.st.length 0 len, pubs (as.map (Arg.raw s)), s.st ++ [Ob.cells xs]) else none) = some (r, wb, st') := by
    cases as <;> exact he
  clear he
  split at he'
  · rename_i hc
    simp only [Option.map_eq_some_iff, Prod.mk.injEq] at he'
    obtain ⟨ys, hf, rfl, rfl, rfl⟩ := he'
    obtain ⟨g1, hR, hV⟩ := h.gots hl hA
    obtain ⟨i', z, hi', hzz⟩ := zero_some hz
    rw [hi] at hi'
    simp only [Option.some.injEq] at hi'
    subst hi'
    have hz0 := zero_ok (g := g1) (w := w) hi hzz hz
    have hZ : Cs g1 w ((Array.range (len * i.size)).map (z.cells[· % z.cells.size]!)) (rep len zs) := zeros_ok hz0 len _ (by rw [hsz])
    obtain ⟨C, hC, hCs⟩ := fill_ok (place := fun j => some (j * i.size, i.size)) (parts.toList.map fun p => (p.1, a.eval p.2)) _ _ _ ys (by simp at hl ⊢; omega) (fun j hj hj' => by
      simp only [List.length_map] at hj hl
      have := hV j (by omega) (by simpa using hj)
      simp only [List.getElem_map, List.getElem_zip]
      refine ⟨trivial, ?_⟩
      simpa using this) hZ hf
    have hys : ys.length = len * i.size := by
      have e1 := hCs.1
      have : C.size = ((Array.range (len * i.size)).map (z.cells[· % z.cells.size]!)).size := by
        exact fill_size _ _ _ hC
      simp at this
      omega
    have hlen : len ≤ 16777216 := Nat.le_trans (Nat.le_mul_of_pos_right _ h0) hbig
    obtain ⟨g2, hR2, hρ⟩ := hR.newOb e hCs
    refine ⟨.slice (some ⟨w.heap.size, 0, none⟩) len len, _, g2, .inl ?_, hR2.put fun _ _ => .slo _ _ _ _ _ _ (Nat.le_refl _) hρ⟩
    have hbig' : ¬ (len * i.size > 2 ^ 24) := by omega
    have hsr : (sizeOf e).run P w = .ok i.size w := by simp [sizeOf, run_info hi]
    simp only [execOp, ho, Instr.buildSlice, Sem.run_bind, run_und ht, Result.andThen_ok, hsr]
    by_cases hl0 : len * i.size = 0
    · have hln : len = 0 := by
        rcases Nat.eq_zero_or_pos len with h' | h'
        · exact h'
        · have := Nat.mul_pos h' h0; omega
      subst hln
      have e0 : ∀ zc : Array Value, (Array.range (0 * i.size)).map (zc[· % zc.size]!) = #[] := by intro zc; apply Array.eq_empty_of_size_eq_zero; simp
      have e1 : ∀ f : Nat → Value, Array.map f (Array.range 0) = #[] := fun f => by apply Array.eq_empty_of_size_eq_zero; simp
      rw [e0] at hC
      simp [hC, newRow, e1]
    · simp [hbig', hl0, zeroValue, run_info hi, hzz, hC, newRow]
  · cases he'

theorem eff_box (h : Rel g0 w0 g s a w) {e : TypeId} {x : Operand} {ar : Arg} (ho : o.op = .box e x) (hx : AOk g w s a x ar) {r : SV} {wb : List (Nat × SV)} {st' : List Ob} (he : ev s.st .box [ar.raw s] = some (r, wb, st')) :
    EffOk P g0 w0 (S.put { env := wback [ar] s.env wb, st := st' } o.dst r) a w o := by
  simp only [ev] at he
  split at he
  · rename_i hc
    simp only [Option.some.injEq, Prod.mk.injEq] at he
    obtain ⟨rfl, rfl, rfl⟩ := he
    obtain ⟨g1, hR, hV⟩ := h.gots (vs := [ar]) (xs := [x]) rfl (fun i hi hi' => by simp at hi; subst hi; exact hx)
    have hv0 := hV 0 (by simp) (by simp)
    simp only [List.getElem_cons_zero] at hv0
    have e1 : pubs ([ar].map (Arg.raw s)) = if exc (ar.raw s) then [(0, Sh.pub (ar.raw s))] else [] := by
      simp only [pubs, List.map_cons, List.map_nil, pubsFrom]
    rw [e1] at hR
    obtain ⟨g2, hR2, hρ⟩ := hR.newOb e (cells_ok hv0 hc)
    refine ⟨.pointer (some ⟨w.heap.size, 0, none⟩), _, g2, .inl ?_, hR2.put fun _ _ => .ptr _ _ _ _ hρ⟩
    simp [execOp, ho, Instr.box, newVar, newRow]
  · cases he

theorem eff_alloc (h : Rel g0 w0 g s a w) {e : TypeId} {zs : List SV} (ho : o.op = .alloc e) (hz : zeroL P e = some zs) {r : SV} {wb : List (Nat × SV)} {st' : List Ob} (he : ev s.st (.alloc zs) [] = some (r, wb, st')) :
    EffOk P g0 w0 (S.put { env := wback [] s.env wb, st := st' } o.dst r) a w o := by
  simp only [ev, Option.some.injEq, Prod.mk.injEq] at he
  obtain ⟨rfl, rfl, rfl⟩ := he
  obtain ⟨i, z, hi, hzz⟩ := zero_some hz
  have hz0 := zero_ok (g := g) (w := w) hi hzz hz
  obtain ⟨g2, hR2, hρ⟩ := h.newOb e hz0
  refine ⟨.pointer (some ⟨w.heap.size, 0, none⟩), _, g2, .inl ?_, hR2.put fun _ _ => .ptr _ _ _ _ hρ⟩
  simp [execOp, ho, Instr.alloc, zeroValue, run_info hi, hzz, newVar, newRow]

/-- Cells of an object are written. -/
theorem Rel.write (h : Rel g0 w0 g s a w) {id b off : Nat} {l svs : List SV} {C : Array Value} (hb : g.ρ[id]? = some b) (hl : s.st[id]? = some (.cells l)) (hC : Cs g w C svs) (hfit : off + svs.length ≤ l.length) :
    (∀ j, j < C.toList.length → (w.cell? ⟨b, off + j, none⟩).isSome = true) ∧ (∀ j, j < C.toList.length → w.frozen? ⟨b, off + j, none⟩ = false) ∧
    Rel g0 w0 g { s with st := setOb s.st id (wrCells l off svs) } a (w.setCells b off C.toList) := by
  obtain ⟨cur, E, lo0, hi0, hh, ⟨hsz, hz0⟩, hc⟩ := h.inv.cells id b l hb hl
  obtain ⟨hblt, hm0, hob⟩ := h.inv.obj id b hb
  have hCl : C.toList.length = svs.length := by simpa using hC.1
  have hcells : ∀ j, j < C.toList.length → (w.cell? ⟨b, off + j, none⟩).isSome = true := by
    intro j hj
    rw [cell_at hh, Array.getElem?_eq_getElem (by omega)]
    rfl
  have hfz : ∀ j, j < C.toList.length → w.frozen? ⟨b, off + j, none⟩ = false := by
    intro j hj
    simp only [World.frozen?, hh]
    rw [Bool.eq_false_iff]
    intro hf
    simp at hf
    omega
  refine ⟨hcells, hfz, ?_⟩
  obtain ⟨s1, s2, s3, s4⟩ := setCells_same b C.toList off w
  obtain ⟨cur', hb', hcs'⟩ := setCells_block b C.toList off w cur E (lo0, hi0) hh
  have hin := World.cell?_setCells_in b C.toList off w hcells
  have hout : ∀ x i, (x = b → i < off ∨ off + C.toList.length ≤ i) → (w.setCells b off C.toList).cell? ⟨x, i, none⟩ = w.cell? ⟨x, i, none⟩ := by
    intro x i hxi
    exact World.cell?_setCells_out b C.toList off w ⟨x, i, none⟩ fun h1 _ => hxi h1
  have st : St g w g (w.setCells b off C.toList) := by
    refine ⟨s1, s2, s3, Nat.le_of_eq s4.symm, fun x i _ hi => hout x i fun e => ?_, fun _ _ => Nat.le_refl _, fun _ _ h => h⟩
    subst e; rw [hm0] at hi; omega
  have keep : ∀ x, x ≠ b → Keep g w g (w.setCells b off C.toList) x := fun x hx => ⟨rfl, rfl, setCells_heap b _ _ w x hx⟩
  have keepO : ∀ x q, g.ow x = some q → q.root ≠ .obj id → Keep g w g (w.setCells b off C.toList) x := fun x q hq hr => keep x (by rintro rfl; rw [hob] at hq; cases hq; exact hr rfl)
  have fr : Fr g w g (w.setCells b off C.toList) := ⟨st, fun x _ hx => keep x (by rintro rfl; exact hx ⟨_, hob, by simp⟩)⟩
  have hone : ∀ id' b', g.ρ[id']? = some b' → b' = b → id' = id := by
    rintro id' b' h1 rfl
    have := (h.inv.obj id' b' h1).2.2
    rw [hob] at this
    simpa using this.symm
  have hidlt : id < s.st.length := (List.getElem?_eq_some_iff.1 hl).1
  refine ⟨h.fr.trans fr, ?_, h.env.mono st fun t => slot_ne fun x p _ hx => keepO x _ hx (by simp), h.defers⟩
  refine ⟨by simp [setOb, h.inv.len], fun id' b' hi => ⟨Nat.lt_of_lt_of_le (h.inv.obj id' b' hi).1 st.size, (h.inv.obj id' b' hi).2⟩, fun id' b' l' hi hl' => ?_, fun id' b' l' hi hl' => ?_⟩
  · simp only [setOb] at hl'
    rw [List.getElem?_set] at hl'
    split at hl'
    · rename_i e
      subst e
      rw [hb] at hi
      cases hi
      simp only [hidlt, if_true, Option.some.injEq, Ob.cells.injEq] at hl'
      subst hl'
      have hwl : ∀ (svs l : List SV) (off : Nat), (wrCells l off svs).length = l.length := by
        intro svs
        induction svs with
        | nil => intro l off; rfl
        | cons v r ih => intro l off; simp only [wrCells]; rw [ih]; simp
      refine ⟨cur', E, lo0, hi0, hb', ⟨by rw [hwl, hcs']; exact hsz, by rw [hwl]; exact hz0⟩, fun i hi hi' => ?_⟩
      rw [hwl] at hi'
      have hic : i < cur.size := by omega
      have hci : (w.setCells b off C.toList).cell? ⟨b, i, none⟩ = some cur'[i] := by rw [cell_at hb', Array.getElem?_eq_getElem hi]
      have hwr : ∀ (svs l : List SV) (off i : Nat), i < l.length → (wrCells l off svs)[i]? = if off ≤ i ∧ i < off + svs.length then svs[i - off]? else l[i]? := by
        intro svs
        induction svs with
        | nil => intro l off i hi; simp only [wrCells, List.length_nil]; rw [if_neg (by omega)]
        | cons v r ih =>
          intro l off i hi
          simp only [wrCells]
          rw [ih _ _ _ (by simpa using hi)]
          by_cases h1 : off + 1 ≤ i ∧ i < off + 1 + r.length
          · rw [if_pos h1, if_pos (by simp; omega)]
            rw [show i - off = (i - (off + 1)) + 1 by omega]
            rfl
          · rw [if_neg h1, List.getElem?_set]
            by_cases h2 : off = i
            · subst h2
              simp [hi]
            · rw [if_neg h2, if_neg (by simp; omega)]
      have hwi := hwr svs l off i hi'
      rw [List.getElem?_eq_getElem (by rw [hwl]; exact hi')] at hwi
      by_cases hr : off ≤ i ∧ i < off + svs.length
      · rw [if_pos hr, List.getElem?_eq_getElem (by omega)] at hwi
        simp only [Option.some.injEq] at hwi
        rw [hwi]
        have h2 := hin (i - off) (by omega)
        rw [show off + (i - off) = i by omega, hci] at h2
        simp only [Option.some.injEq, Array.getElem_toList] at h2
        rw [h2]
        have h3 := hC.2 (i - off) (by have := hC.1; omega) (by omega)
        exact ⟨h3.1, (h3.2.mono st (KeepRoot.none _ _ _ _)).free rfl _⟩
      · rw [if_neg hr, List.getElem?_eq_getElem hi'] at hwi
        simp only [Option.some.injEq] at hwi
        rw [hwi]
        have h2 := hout b i (fun _ => by omega)
        rw [hci, cell_at hh, Array.getElem?_eq_getElem hic] at h2
        simp only [Option.some.injEq] at h2
        rw [h2]
        exact ⟨(hc i hic hi').1, (hc i hic hi').2.mono st (cell_ne fun x p _ hx => keepO x _ hx (by simp))⟩
    · rename_i e
      have hne : b' ≠ b := fun e' => e (hone id' b' hi e').symm
      exact (h.inv.cells id' b' l' hi hl').mono st (keep b' hne).heap (fun i => cell_ne fun x p _ hx => keepO x _ hx (by simp))
  · simp only [setOb] at hl'
    rw [List.getElem?_set] at hl'
    split at hl'
    · rename_i e; simp [hidlt] at hl'
    · rename_i e
      have hne : b' ≠ b := fun e' => e (hone id' b' hi e').symm
      exact (h.inv.map id' b' l' hi hl').mono st (keep b' hne).heap

theorem run_storeAt {t : TypeId} {n b off : Nat} {v : Value} (hn : sz P t = some n) (hsz : v.cells.size = n) (h1 : ∀ j, j < v.cells.toList.length → (w.cell? ⟨b, off + j, none⟩).isSome = true) (h2 : ∀ j, j < v.cells.toList.length → w.frozen? ⟨b, off + j, none⟩ = false)
    (h3 : ∀ u ∈ v.cells.toList, u.oneCell' = true) : (Instr.storeAt t (.pointer (some ⟨b, off, none⟩)) v).run P w = .ok () (w.setCells b off v.cells.toList) := by
  have := run_storeCells_cells (P := P) b off v.cells.toList 0 w (by simpa using h1) (by simpa using h2) h3
  simp only [Nat.add_zero] at this
  simp [Instr.storeAt, Instr.sureAddr, storeVar, run_size hn, hsz, this]

end
end Go.Sh
