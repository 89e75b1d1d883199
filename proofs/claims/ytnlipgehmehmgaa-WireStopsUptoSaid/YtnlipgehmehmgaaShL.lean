/-
  The shadow machine, part L: assignments, makes, builds, boxes.
-/
import Derived.Test.YtnlipgehmehmgaaShK
set_option linter.unusedSimpArgs false
set_option linter.unusedVariables false
namespace Go.Sh

section
variable {P : Program} {g0 : Gh} {w0 : World} {g : Gh} {w : World} {s : S} {a : Act} {o : Oper}

theorem eff_take (h : Rel g0 w0 g s a w) {x : Operand} {ar : Arg} (ho : o.op = .move x ∨ o.op = .assign x) (hx : AOk g w s a x ar) {r : SV} {wb : List (Nat × SV)} {st' : List Ob} (he : ev s.st .take [ar.raw s] = some (r, wb, st')) :
    EffOk P g0 w0 (S.put { env := wback [ar] s.env wb, st := st' } o.dst r) a w o := by
  simp only [ev, Option.some.injEq, Prod.mk.injEq] at he
  obtain ⟨rfl, rfl, rfl⟩ := he
  obtain ⟨g', hR, hv⟩ := h.gots (vs := [ar]) (xs := [x]) rfl (fun i hi hi' => by simp at hi; subst hi; exact hx)
  have hv0 := hv 0 (by simp) (by simp)
  simp only [List.getElem_cons_zero] at hv0
  have e : pubs ([ar].map (Arg.raw s)) = if exc (ar.raw s) then [(0, Sh.pub (ar.raw s))] else [] := by
    simp only [pubs, List.map_cons, List.map_nil, pubsFrom]
  rw [e] at hR
  exact ⟨a.eval x, w, g', .inl (by rcases ho with ho | ho <;> simp [execOp, ho]), hR.put fun t _ => hv0.free rfl _⟩

theorem eff_give (h : Rel g0 w0 g s a w) {x : Operand} {ar : Arg} (ho : o.op = .assign x) (hx : AOk g w s a x ar) (hd : ∀ t, ar = .slot t → o.dst ≠ some t) {r : SV} {wb : List (Nat × SV)} {st' : List Ob} (he : ev s.st .give [ar.raw s] = some (r, wb, st')) :
    EffOk P g0 w0 (S.put { env := wback [ar] s.env wb, st := st' } o.dst r) a w o := by
  simp only [ev] at he
  split at he
  · rename_i hf
    simp only [Option.some.injEq, Prod.mk.injEq] at he
    obtain ⟨rfl, rfl, rfl⟩ := he
    obtain ⟨t, rfl⟩ := hx.flg_slot hf
    simp only [Arg.raw] at hf
    have hne : s.get t ≠ .undef := by intro e; rw [e] at hf; simp [flg] at hf
    simp only [Arg.raw, wback, List.getElem?_cons_zero]
    cases hdd : o.dst with
    | none =>
      refine ⟨a.eval x, w, g, .inl (by simp [execOp, ho]), ?_⟩
      rw [hdd]
      exact h.weak t (v' := ro (s.get t)) (fun rv hv => hv.ro _)
    | some d =>
      refine ⟨a.eval x, w, g.re (mv (.slot t) (.slot d)), .inl (by simp [execOp, ho]), ?_⟩
      rw [hdd, hx.eval t rfl]
      exact h.move rfl hne (fun e => hd t rfl (by rw [hdd, e]))
  · simp only [Option.some.injEq, Prod.mk.injEq] at he
    obtain ⟨rfl, rfl, rfl⟩ := he
    obtain ⟨ow, hv⟩ := hx.V
    exact EffOk.pure h (pv_move (.inr ho) hv)

/-- A component of a tuple changes hands. -/
theorem eff_ext (h : Rel g0 w0 g s a w) {x : Operand} {ar : Arg} {i : Nat} (ho : o.op = .extract x i) (hx : AOk g w s a x ar) (hd : ∀ t, ar = .slot t → o.dst ≠ some t) {r : SV} {wb : List (Nat × SV)} {st' : List Ob} (he : ev s.st (.ext i) [ar.raw s] = some (r, wb, st')) :
    EffOk P g0 w0 (S.put { env := wback [ar] s.env wb, st := st' } o.dst r) a w o := by
  obtain ⟨xs, hraw⟩ : ∃ xs, ar.raw s = .tup xs := by
    cases hv : ar.raw s <;> simp [ev, pv, hv] at he ⊢
  rw [hraw] at he
  simp only [ev, Option.map_eq_some_iff] at he
  obtain ⟨v, hv, he⟩ := he
  obtain ⟨ow, hvx⟩ := hx.V
  rw [hraw] at hvx
  obtain ⟨hi, rfl⟩ := List.getElem?_eq_some_iff.1 hv
  generalize hvx' : a.eval x = vx at hvx
  cases hvx with
  | tup _ cs _ hl hxx =>
    have hi' : i < cs.size := by omega
    have hrun : (execOp a.eval o).run P w = .ok (.value cs[i]) w := by simp [execOp, ho, hvx', Instr.extract, Array.getElem?_eq_getElem hi']
    split at he
    · rename_i hf
      simp only [Prod.mk.injEq] at he
      obtain ⟨rfl, rfl, rfl⟩ := he
      cases ar with
      | lit v =>
        simp only [Arg.raw] at hraw
        subst hraw
        have := hx.lit _ rfl g w none
        rw [hvx'] at this
        cases this with
        | tup _ _ _ hl hxx =>
          have hq := hxx i hi' hi
          generalize xs[i] = sv at hq hf
          generalize cs[i] = cv at hq
          obtain ⟨ys, n, es, rfl | rfl⟩ := flg_inv hf <;> cases hq <;> rename_i hfo <;> (obtain ⟨⟨q, hq, _⟩, _⟩ := hfo; cases hq)
      | slot t =>
        simp only [Arg.raw] at hraw
        simp only [wback, List.getElem?_cons_zero]
        have hvt := hx.val t rfl
        rw [hraw, hvx'] at hvt
        obtain ⟨hlt, hg⟩ := get_lt hraw (by simp)
        have hlt' : t < a.tmps.size := by rw [h.env.size]; exact hlt
        have hev : a.eval (.tmp t) = a.tmps[t] := by simp [Act.eval, hlt']
        have hvt2 := h.env.val t hlt' hlt
        rw [hg, ← hev, ← hx.eval t rfl, hvx'] at hvt2
        cases hdd : o.dst with
        | none =>
          refine ⟨cs[i], w, g, .inl hrun, ?_⟩
          rw [hdd]
          refine h.weak t (v' := .tup (xs.set i (ro xs[i]))) (fun rv hrv => ?_)
          rw [hraw] at hrv
          cases hrv with
          | tup _ ds _ hl2 hx2 =>
            refine .tup _ ds _ (by simpa using hl2) (fun j hj hj' => ?_)
            rw [List.getElem_set]
            split
            · rename_i e; subst e; exact (hx2 _ hj (by simpa using hj')).ro _
            · exact hx2 j hj (by simpa using hj')
        | some d =>
          have htd : t ≠ d := fun e => hd t rfl (by rw [hdd, e])
          let φ : Owner → Owner := fun q => if q.root = .slot t ∧ q.path.getLast? = some i then ⟨.slot d, q.path.dropLast⟩ else q
          have fr : Fr g w (g.re φ) w := by
            refine ⟨g.re_st w _, fun b _ ht => ⟨?_, rfl, rfl⟩⟩
            show (g.ow b).map _ = g.ow b
            cases hob : g.ow b with
            | none => rfl
            | some q =>
              have : q.root = .outer := Classical.byContradiction fun hn => ht ⟨q, hob, hn⟩
              simp only [Option.map_some, φ]
              rw [if_neg (by rw [this]; simp)]
          have hsame : ∀ r', r' ≠ .slot t → ∀ rv sv, V g w (some ⟨r', []⟩) rv sv → V (g.re φ) w (some ⟨r', []⟩) rv sv := by
            intro r' hr rv sv hv
            refine hv.relabel_same _ ?_
            intro q hq p
            cases hq
            simp only [φ]
            rw [if_neg (fun e => hr e.1)]
          refine ⟨cs[i], w, g.re φ, .inl hrun, h.fr.trans fr, ?_, ?_, by rw [hdd]; exact h.defers⟩
          · refine ⟨h.inv.len, fun id b hid => ?_, fun id b l hid hl => ?_, fun id b l hid hl => ?_⟩
            · obtain ⟨h1, h2, h3⟩ := h.inv.obj id b hid
              exact ⟨h1, h2, by simp [Gh.re, h3, φ]⟩
            · obtain ⟨cur, E, h1, h2, h3⟩ := h.inv.cells id b l hid hl
              exact ⟨cur, E, h1, h2, fun j hj hj' => ⟨(h3 j hj hj').1, hsame _ (by simp) _ _ (h3 j hj hj').2⟩⟩
            · obtain ⟨es, clock, h1, h2, h3⟩ := h.inv.map id b l hid hl
              exact ⟨es, clock, h1, h2, fun j hj hj' => ⟨(h3 j hj hj').1.relabel_same _ (by intro q hq; cases hq), (h3 j hj hj').2.relabel_same _ (by intro q hq; cases hq)⟩⟩
          · rw [hdd]
            have E1 : EnvOk (g.re φ) w (s.env.set t (.tup (xs.set i (ro xs[i])))) a.tmps := by
              refine ⟨by simpa using h.env.size, fun y hy hy' => ?_⟩
              rw [List.getElem_set]
              split
              · rename_i e
                subst e
                rw [← hev, ← hx.eval t rfl, hvx']
                cases hvt2 with
                | tup _ _ _ hl2 hx2 =>
                  refine .tup _ cs _ (by simpa using hl2) (fun j hj hj' => ?_)
                  rw [List.getElem_set]
                  split
                  · rename_i e; subst e
                    exact (((hx2 _ hj hi).ro none).relabel_same _ (by intro q hq; cases hq)).free rfl _
                  · rename_i e
                    refine (hx2 j hj (by simpa using hj')).relabel_same _ ?_
                    intro q hq p
                    simp only [slotO, Owner.sub, Option.map_some, Option.some.injEq] at hq
                    subst hq
                    simp only [φ]
                    rw [if_neg]
                    simp
                    exact fun e' => e e'.symm
              · rename_i e
                refine hsame _ ?_ _ _ (h.env.val y hy (by simpa using hy'))
                simp only [ne_eq, Root.slot.injEq]
                exact fun e' => e e'.symm
            refine E1.put ?_
            cases hvt2 with
            | tup _ _ _ hl2 hx2 =>
              refine (hx2 i hi' hi).relabel _ _ ?_
              intro q hq
              simp only [slotO, Owner.sub, Option.map_some, Option.some.injEq] at hq
              subst hq
              refine ⟨_, rfl, fun p => ?_⟩
              simp [φ]
    · simp only [Prod.mk.injEq] at he
      obtain ⟨rfl, rfl, rfl⟩ := he
      exact EffOk.pure h ⟨cs[i], hrun, (hxx i hi' hi).ro none⟩

end
end Go.Sh
