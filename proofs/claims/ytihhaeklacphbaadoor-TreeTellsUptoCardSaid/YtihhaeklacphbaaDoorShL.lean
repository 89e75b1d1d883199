/-
  The shadow machine, part L: assignments, makes, builds, boxes.
-/
import Derived.Test.YtihhaeklacphbaaDoorShK
set_option linter.unusedSimpArgs false
set_option linter.unusedVariables false
namespace Go.Sh

section
variable {P : Program} {g0 : Gh} {w0 : World} {g : Gh} {w : World} {s : S} {a : Act} {o : Oper}

theorem eff_take (h : Rel g0 w0 g s a w) {x : Operand} {ar : Arg} (ho : o.op = .move x ∨ o.op = .assign x) (hx : AOk g w s a x ar) {r : SV} {wb : List (Nat × SV)} {st' : List Ob} (he : ev s.st .take [ar.raw s] = some (r, wb, st')) :
    EffOk P g0 w0 (S.put { env := wback [ar] s.env wb, st := st' } o.dst r) a w o := by
  simp only [ev, Option.some.injEq, Prod.mk.injEq] at he
  obtain ⟨rfl, rfl, rfl⟩ := he
  obtain ⟨g', hR, hv⟩ := h.gots (vs := [ar]) (xs := [x]) rfl (fun i hi hi' => by simp at hi; subst hi; exact hx)
  have hv0 := hv 0 (by simp) (by simp)
  simp only [List.getElem_cons_zero] at hv0
  have e : pubs ([ar].map (Arg.raw s)) = if exc (ar.raw s) then [(0, Sh.pub (ar.raw s))] else [] := by
    simp only [pubs, List.map_cons, List.map_nil, pubsFrom]
  rw [e] at hR
  exact ⟨a.eval x, w, g', .inl (by rcases ho with ho | ho <;> simp [execOp, ho]), hR.put fun t _ => hv0.free rfl _⟩

theorem eff_give (h : Rel g0 w0 g s a w) {x : Operand} {ar : Arg} (ho : o.op = .assign x) (hx : AOk g w s a x ar) (hd : ∀ t, ar = .slot t → o.dst ≠ some t) {r : SV} {wb : List (Nat × SV)} {st' : List Ob} (he : ev s.st .give [ar.raw s] = some (r, wb, st')) :
    EffOk P g0 w0 (S.put { env := wback [ar] s.env wb, st := st' } o.dst r) a w o := by
  simp only [ev] at he
  split at he
  · rename_i hf
    simp only [Option.some.injEq, Prod.mk.injEq] at he
    obtain ⟨rfl, rfl, rfl⟩ := he
    obtain ⟨t, rfl⟩ := hx.flg_slot hf
    simp only [Arg.raw] at hf
    have hne : s.get t ≠ .undef := by intro e; rw [e] at hf; simp [flg] at hf
    simp only [Arg.raw, wback, List.getElem?_cons_zero]
    cases hdd : o.dst with
    | none =>
      refine ⟨a.eval x, w, g, .inl (by simp [execOp, ho]), ?_⟩
      rw [hdd]
      exact h.weak t (v' := ro (s.get t)) (fun rv hv => hv.ro _)
    | some d =>
      refine ⟨a.eval x, w, g.re (mv (.slot t) (.slot d)), .inl (by simp [execOp, ho]), ?_⟩
      rw [hdd, hx.eval t rfl]
      exact h.move rfl hne (fun e => hd t rfl (by rw [hdd, e]))
  · simp only [Option.some.injEq, Prod.mk.injEq] at he
    obtain ⟨rfl, rfl, rfl⟩ := he
    obtain ⟨ow, hv⟩ := hx.V
    exact EffOk.pure h (pv_move (.inr ho) hv)

/-- A slice that nobody else has becomes an object. -/
theorem Rel.objs (h : Rel g0 w0 g s a w) {t : Nat} {xs : List SV} {n es : Nat} (ht : s.get t = .sl xs n (.excl es)) :
    ∃ g' b cap, a.eval (.tmp t) = .slice (some ⟨b, 0, none⟩) n cap ∧ n ≤ cap ∧ g'.ρ[s.st.length]? = some b ∧ Rel g0 w0 g' { env := s.env.set t .undef, st := s.st ++ [.cells xs] } a w := by
  obtain ⟨hlt, hg⟩ := get_lt ht (by simp)
  have hlt' : t < a.tmps.size := by rw [h.env.size]; exact hlt
  have hev : a.eval (.tmp t) = a.tmps[t] := by simp [Act.eval, hlt']
  have hvt := h.env.val t hlt' hlt
  rw [hg] at hvt
  generalize hvv : a.tmps[t] = vv at hvt
  cases hvt with
  | slz _ ad fl hf => rcases hf with h | h <;> cases h
  | sl _ b off _ cap _ _ f hlen hcell hone hx hf =>
    obtain ⟨⟨o', ho', how⟩, hoff, hxl, hmk, cur, E, lo0, hi0, hheap, hcs, hfz, _⟩ := hf
    subst hoff
    simp only [slotO, Option.some.injEq] at ho'
    subst ho'
    have hblt : b < w.heap.size := lt_of_heap hheap
    let g' : Gh := { mark := g.mark, ow := fun x => if x = b then some ⟨.obj s.st.length, []⟩ else g.ow x, ρ := g.ρ ++ [b] }
    have hlenρ : g.ρ.length = s.st.length := h.inv.len
    have hρ : ∀ (id c : Nat), g.ρ[id]? = some c → g'.ρ[id]? = some c := fun id c hi => by
      have := (List.getElem?_eq_some_iff.1 hi).1
      show (g.ρ ++ [b])[id]? = _
      rw [List.getElem?_append_left this]; exact hi
    have st : St g w g' w := ⟨rfl, rfl, rfl, Nat.le_refl _, fun _ _ _ _ => rfl, fun _ _ => Nat.le_refl _, hρ⟩
    have keep : ∀ c, c ≠ b → Keep g w g' w c := fun c hc => ⟨by show (if c = b then _ else _) = _; rw [if_neg hc], rfl, rfl⟩
    have keepR : ∀ (r : Root), r ≠ .slot t → ∀ c q, g.ow c = some q → q.root = r → Keep g w g' w c := by
      intro r hr c q hq hqr
      refine keep c fun e => ?_
      subst e
      rw [how] at hq
      simp only [Option.some.injEq] at hq
      subst hq
      exact hr hqr.symm
    have fr : Fr g w g' w := by
      refine ⟨st, fun c _ hc => keep c fun e => ?_⟩
      subst e
      exact hc ⟨_, how, by simp⟩
    have hcase : ∀ (id c : Nat), g'.ρ[id]? = some c → g.ρ[id]? = some c ∨ id = s.st.length ∧ c = b := by
      intro id c hi
      change (g.ρ ++ [b])[id]? = _ at hi
      by_cases hl : id < g.ρ.length
      · rw [List.getElem?_append_left hl] at hi; exact .inl hi
      · rw [List.getElem?_append_right (by omega)] at hi
        right
        have h0 : id - g.ρ.length = 0 := by
          rcases Nat.eq_zero_or_pos (id - g.ρ.length) with h' | h'
          · exact h'
          · rw [List.getElem?_eq_none (by simp; omega)] at hi; cases hi
        rw [h0] at hi
        simp at hi
        exact ⟨by omega, hi.symm⟩
    have hobne : ∀ (id c : Nat), g.ρ[id]? = some c → c ≠ b := by
      intro id c hc e
      subst e
      have := (h.inv.obj id c hc).2.2
      rw [how] at this
      simp at this
    refine ⟨g', b, cap, hev.trans hvv, hlen, by show (g.ρ ++ [b])[s.st.length]? = _; rw [← hlenρ]; simp, h.fr.trans fr, ?_, ?_, h.defers⟩
    · refine ⟨by simp [g', hlenρ], fun id c hi => ?_, fun id c l hi hl => ?_, fun id c l hi hl => ?_⟩
      · rcases hcase id c hi with h1 | ⟨rfl, rfl⟩
        · obtain ⟨h2, h3, h4⟩ := h.inv.obj id c h1
          exact ⟨h2, h3, (keep c (hobne id c h1)).ow.trans h4⟩
        · exact ⟨hblt, hmk, by simp [g']⟩
      · rcases hcase id c hi with h1 | ⟨rfl, rfl⟩
        · have h2 := (List.getElem?_eq_some_iff.1 h1).1
          rw [List.getElem?_append_left (by omega)] at hl
          refine (h.inv.cells id c l h1 hl).mono st rfl (fun i => ?_)
          intro q hq c' q' hc' hw' hr'
          cases hq
          exact keepR (.cell id i) (by simp) c' q' hw' hr'
        · rw [List.getElem?_append_right (Nat.le_refl _)] at hl
          simp at hl
          subst hl
          have hle : xs.length ≤ cur.size := by rw [hxl]; exact Nat.le_trans (Nat.mul_le_mul_right _ hlen) hcs
          refine ⟨cur, E, lo0, hi0, hheap, ⟨hle, ?_⟩, fun i hi1 hi2 => ?_⟩
          · rcases hfz with h1 | h1
            · exact .inl h1
            · exact .inr (by omega)
          · have hc1 := hcell i hi2
            rw [Nat.zero_add, cell_at hheap, Array.getElem?_eq_getElem hi1] at hc1
            simp only [Option.some.injEq] at hc1
            rw [hc1]
            exact ⟨hone i hi2, ((hx i hi2).mono st (KeepRoot.none _ _ _ _)).free rfl _⟩
      · rcases hcase id c hi with h1 | ⟨rfl, rfl⟩
        · have h2 := (List.getElem?_eq_some_iff.1 h1).1
          rw [List.getElem?_append_left (by omega)] at hl
          exact (h.inv.map id c l h1 hl).mono st rfl
        · rw [List.getElem?_append_right (Nat.le_refl _)] at hl
          simp at hl
    · refine ⟨by simpa using h.env.size, fun x hx1 hx2 => ?_⟩
      rw [List.getElem_set]
      split
      · exact .undef _ _
      · rename_i hne
        refine (h.env.val x hx1 (by simpa using hx2)).mono st ?_
        intro q hq c' q' hc' hw' hr'
        cases hq
        exact keepR (.slot x) (by simp only [ne_eq, Root.slot.injEq]; exact fun e => hne e.symm) c' q' hw' hr'

theorem eff_giveP (h : Rel g0 w0 g s a w) {x : Operand} {ar : Arg} (ho : o.op = .assign x) (hx : AOk g w s a x ar) (hd : ∀ t, ar = .slot t → o.dst ≠ some t) {r : SV} {wb : List (Nat × SV)} {st' : List Ob} (he : ev s.st .giveP [ar.raw s] = some (r, wb, st')) :
    EffOk P g0 w0 (S.put { env := wback [ar] s.env wb, st := st' } o.dst r) a w o := by
  by_cases hex : exc (ar.raw s) = true
  · obtain ⟨xs, n, es, hv⟩ := exc_inv hex
    have hf := exc_flg hex
    simp only [ev, hf, if_true, Option.some.injEq, Prod.mk.injEq] at he
    obtain ⟨rfl, rfl, rfl⟩ := he
    have he' : ev s.st .give [ar.raw s] = some (ar.raw s, [(0, Sh.ro (ar.raw s))], s.st) := by simp only [ev, hf, if_true]
    obtain ⟨rv, w', g', hr, hR⟩ := eff_give h ho hx hd he'
    generalize wback [ar] s.env [(0, Sh.ro (ar.raw s))] = env at hR ⊢
    rw [hv] at hR ⊢
    cases hds : o.dst with
    | none => rw [hds] at hR; exact ⟨rv, w', g', hr, by rw [hds]; exact hR⟩
    | some d =>
      rw [hds] at hR
      by_cases hlt : d < env.length
      · obtain ⟨g2, hR2⟩ := hR.pub d (xs := xs) (n := n) (es := es) (by simp [S.put, S.get, hlt])
        refine ⟨rv, w', g2, hr, ?_⟩
        rw [hds]
        simp only [S.put, List.set_set] at hR2
        exact hR2
      · refine ⟨rv, w', g', hr, ?_⟩
        rw [hds]
        simp only [S.put] at hR ⊢
        rw [List.set_eq_of_length_le (Nat.le_of_not_lt hlt)] at hR ⊢
        exact hR
  · refine eff_give h ho hx hd ?_
    rw [← he]
    simp only [ev]
    split
    · rename_i hf
      have hp : Sh.pub (ar.raw s) = ar.raw s := by
        obtain ⟨xs, n, es, hv | hv⟩ := flg_inv hf
        · rw [hv]; rfl
        · rw [hv] at hex; exact absurd rfl hex
      rw [hp]
    · rfl

theorem eff_giveO (h : Rel g0 w0 g s a w) {x : Operand} {ar : Arg} (ho : o.op = .assign x) (hx : AOk g w s a x ar) (hd : ∀ t, ar = .slot t → o.dst ≠ some t) {r : SV} {wb : List (Nat × SV)} {st' : List Ob} (he : ev s.st .giveO [ar.raw s] = some (r, wb, st')) :
    EffOk P g0 w0 (S.put { env := wback [ar] s.env wb, st := st' } o.dst r) a w o := by
  by_cases hex : exc (ar.raw s) = true
  · obtain ⟨t, rfl⟩ := hx.flg_slot (exc_flg hex)
    obtain ⟨xs, n, es, hv⟩ := exc_inv hex
    rw [hv] at he
    simp only [ev, Option.some.injEq, Prod.mk.injEq] at he
    obtain ⟨rfl, rfl, rfl⟩ := he
    simp only [Arg.raw] at hv
    obtain ⟨g', b, cap, hev, hle, hρ, hR⟩ := h.objs hv
    simp only [wback, List.getElem?_cons_zero]
    refine ⟨a.eval x, w, g', .inl (by simp [execOp, ho]), hR.put fun d _ => ?_⟩
    rw [hx.eval t rfl, hev]
    exact .slo _ _ _ _ _ _ hle hρ
  · refine eff_give h ho hx hd ?_
    rw [← he]
    generalize ar.raw s = v at *
    cases v <;> first | rfl | skip
    rename_i f
    cases f <;> first | rfl | (simp [exc] at hex; done)

/-- A component of a tuple changes hands. -/
theorem eff_ext (h : Rel g0 w0 g s a w) {x : Operand} {ar : Arg} {i : Nat} (ho : o.op = .extract x i) (hx : AOk g w s a x ar) (hd : ∀ t, ar = .slot t → o.dst ≠ some t) {r : SV} {wb : List (Nat × SV)} {st' : List Ob} (he : ev s.st (.ext i) [ar.raw s] = some (r, wb, st')) :
    EffOk P g0 w0 (S.put { env := wback [ar] s.env wb, st := st' } o.dst r) a w o := by
  obtain ⟨xs, hraw⟩ : ∃ xs, ar.raw s = .tup xs := by
    cases hv : ar.raw s <;> simp [ev, pv, hv] at he ⊢
  rw [hraw] at he
  simp only [ev, Option.map_eq_some_iff] at he
  obtain ⟨v, hv, he⟩ := he
  obtain ⟨ow, hvx⟩ := hx.V
  rw [hraw] at hvx
  obtain ⟨hi, rfl⟩ := List.getElem?_eq_some_iff.1 hv
  generalize hvx' : a.eval x = vx at hvx
  cases hvx with
  | tup _ cs _ hl hxx =>
    have hi' : i < cs.size := by omega
    have hrun : (execOp a.eval o).run P w = .ok (.value cs[i]) w := by simp [execOp, ho, hvx', Instr.extract, Array.getElem?_eq_getElem hi']
    split at he
    · rename_i hf
      simp only [Prod.mk.injEq] at he
      obtain ⟨rfl, rfl, rfl⟩ := he
      cases ar with
      | lit v =>
        simp only [Arg.raw] at hraw
        subst hraw
        have := hx.lit _ rfl g w none
        rw [hvx'] at this
        cases this with
        | tup _ _ _ hl hxx =>
          have hq := hxx i hi' hi
          generalize xs[i] = sv at hq hf
          generalize cs[i] = cv at hq
          obtain ⟨ys, n, es, rfl | rfl⟩ := flg_inv hf <;> cases hq <;> rename_i hfo <;> first | (obtain ⟨⟨q, hq, _⟩, _⟩ := hfo; cases hq; done) | (rcases hfo with h | h <;> cases h)
      | slot t =>
        simp only [Arg.raw] at hraw
        simp only [wback, List.getElem?_cons_zero]
        have hvt := hx.val t rfl
        rw [hraw, hvx'] at hvt
        obtain ⟨hlt, hg⟩ := get_lt hraw (by simp)
        have hlt' : t < a.tmps.size := by rw [h.env.size]; exact hlt
        have hev : a.eval (.tmp t) = a.tmps[t] := by simp [Act.eval, hlt']
        have hvt2 := h.env.val t hlt' hlt
        rw [hg, ← hev, ← hx.eval t rfl, hvx'] at hvt2
        cases hdd : o.dst with
        | none =>
          refine ⟨cs[i], w, g, .inl hrun, ?_⟩
          rw [hdd]
          refine h.weak t (v' := .tup (xs.set i (ro xs[i]))) (fun rv hrv => ?_)
          rw [hraw] at hrv
          cases hrv with
          | tup _ ds _ hl2 hx2 =>
            refine .tup _ ds _ (by simpa using hl2) (fun j hj hj' => ?_)
            rw [List.getElem_set]
            split
            · rename_i e; subst e; exact (hx2 _ hj (by simpa using hj')).ro _
            · exact hx2 j hj (by simpa using hj')
        | some d =>
          have htd : t ≠ d := fun e => hd t rfl (by rw [hdd, e])
          let φ : Owner → Owner := fun q => if q.root = .slot t ∧ q.path.getLast? = some i then ⟨.slot d, q.path.dropLast⟩ else q
          have fr : Fr g w (g.re φ) w := by
            refine ⟨g.re_st w _, fun b _ ht => ⟨?_, rfl, rfl⟩⟩
            show (g.ow b).map _ = g.ow b
            cases hob : g.ow b with
            | none => rfl
            | some q =>
              have : q.root = .outer := Classical.byContradiction fun hn => ht ⟨q, hob, hn⟩
              simp only [Option.map_some, φ]
              rw [if_neg (by rw [this]; simp)]
          have hsame : ∀ r', r' ≠ .slot t → ∀ rv sv, V g w (some ⟨r', []⟩) rv sv → V (g.re φ) w (some ⟨r', []⟩) rv sv := by
            intro r' hr rv sv hv
            refine hv.relabel_same _ ?_
            intro q hq p
            cases hq
            simp only [φ]
            rw [if_neg (fun e => hr e.1)]
          refine ⟨cs[i], w, g.re φ, .inl hrun, h.fr.trans fr, ?_, ?_, by rw [hdd]; exact h.defers⟩
          · refine ⟨h.inv.len, fun id b hid => ?_, fun id b l hid hl => ?_, fun id b l hid hl => ?_⟩
            · obtain ⟨h1, h2, h3⟩ := h.inv.obj id b hid
              exact ⟨h1, h2, by simp [Gh.re, h3, φ]⟩
            · obtain ⟨cur, E, lo, hi0, h1, h2, h3⟩ := h.inv.cells id b l hid hl
              exact ⟨cur, E, lo, hi0, h1, h2, fun j hj hj' => ⟨(h3 j hj hj').1, hsame _ (by simp) _ _ (h3 j hj hj').2⟩⟩
            · obtain ⟨es, clock, h1, h2, h3⟩ := h.inv.map id b l hid hl
              exact ⟨es, clock, h1, h2, fun j hj hj' => ⟨(h3 j hj hj').1.relabel_same _ (by intro q hq; cases hq), (h3 j hj hj').2.relabel_same _ (by intro q hq; cases hq)⟩⟩
          · rw [hdd]
            have E1 : EnvOk (g.re φ) w (s.env.set t (.tup (xs.set i (ro xs[i])))) a.tmps := by
              refine ⟨by simpa using h.env.size, fun y hy hy' => ?_⟩
              rw [List.getElem_set]
              split
              · rename_i e
                subst e
                rw [← hev, ← hx.eval t rfl, hvx']
                cases hvt2 with
                | tup _ _ _ hl2 hx2 =>
                  refine .tup _ cs _ (by simpa using hl2) (fun j hj hj' => ?_)
                  rw [List.getElem_set]
                  split
                  · rename_i e; subst e
                    exact (((hx2 _ hj hi).ro none).relabel_same _ (by intro q hq; cases hq)).free rfl _
                  · rename_i e
                    refine (hx2 j hj (by simpa using hj')).relabel_same _ ?_
                    intro q hq p
                    simp only [slotO, Owner.sub, Option.map_some, Option.some.injEq] at hq
                    subst hq
                    simp only [φ]
                    rw [if_neg]
                    simp
                    exact fun e' => e e'.symm
              · rename_i e
                refine hsame _ ?_ _ _ (h.env.val y hy (by simpa using hy'))
                simp only [ne_eq, Root.slot.injEq]
                exact fun e' => e e'.symm
            refine E1.put ?_
            cases hvt2 with
            | tup _ _ _ hl2 hx2 =>
              refine (hx2 i hi' hi).relabel _ _ ?_
              intro q hq
              simp only [slotO, Owner.sub, Option.map_some, Option.some.injEq] at hq
              subst hq
              refine ⟨_, rfl, fun p => ?_⟩
              simp [φ]
    · simp only [Prod.mk.injEq] at he
      obtain ⟨rfl, rfl, rfl⟩ := he
      exact EffOk.pure h ⟨cs[i], hrun, (hxx i hi' hi).ro none⟩

end
end Go.Sh
