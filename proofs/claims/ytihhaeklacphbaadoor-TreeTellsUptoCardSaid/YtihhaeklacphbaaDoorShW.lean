/-
  The shadow machine, part W: rows of operations, the code, functions.
-/
import Derived.Test.YtihhaeklacphbaaDoorShU
import Derived.Deep.LoopGhost
set_option linter.unusedSimpArgs false
set_option linter.unusedVariables false
namespace Go.Sh

section
variable {P : Program} {O : Orc} {g0 : Gh} {w0 : World} {g : Gh} {w : World} {s : S} {a : Act} {o : Oper} {σ : Sg} {res : List Nat} {c : Opc} {as : List Arg}

theorem run_callFunc {f : FuncId} (h : Plain P f) (vs : Array Value) : (callFunc f vs).run P w = .ok (.enter f vs) w := by
  obtain ⟨fn, h1, h2, h3, _⟩ := h
  have h2' : ¬ (fn.body.isNone = true) := by rw [h2]; simp
  have h3' : ¬ ((fn.name == "runtime.NumGoroutine") = true) := by rw [h3]; simp
  simp only [callFunc, Sem.run_bind, run_program, Result.andThen_ok, h1]
  rw [if_neg h3', if_neg h2']
  rfl

/-- Values, one by one. -/
def Vs (g : Gh) (w : World) (vs : List Value) (svs : List SV) : Prop := vs.length = svs.length ∧ ∀ i (h : i < vs.length) (h' : i < svs.length), V g w none (vs[i]'h) (svs[i]'h')

theorem Vs.append {xs ys : List Value} {us vs : List SV} (h : Vs g w xs us) (k : Vs g w ys vs) : Vs g w (xs ++ ys) (us ++ vs) := by
  refine ⟨by simp [h.1, k.1], fun i h1 h2 => ?_⟩
  rw [List.getElem_append, List.getElem_append]
  by_cases hi : i < xs.length
  · rw [dif_pos hi, dif_pos (by rw [← h.1]; exact hi)]
    exact h.2 i hi _
  · rw [dif_neg hi, dif_neg (by rw [← h.1]; exact hi)]
    have := k.2 (i - xs.length) (by rw [List.length_append] at h1; omega) (by rw [List.length_append] at h2; have := h.1; omega)
    simpa only [h.1] using this

theorem call_wp (hS : Sound P O) (h : Rel g0 w0 g s a w) {f : FuncId} {avs : List SV} {r : SV} {st' : List Ob} (hO : O f avs s.st r st') {vs : List Value} (hv : vs.length = avs.length ∧ ∀ i (h : i < vs.length) (h' : i < avs.length), V g w none (vs[i]'h) (avs[i]'h'))
    (hrun : (execOp a.eval o).run P w = (callFunc f vs.toArray).run P w) {next : Act → World → Prop} {Q : Exit → Act → World → Prop}
    (hn : ∀ rv g' w', Rel g0 w0 g' (S.put { s with st := st' } o.dst r) (a.put o.dst rv) w' → next (a.put o.dst rv) w') : o.wp P a w next Q := by
  obtain ⟨hS1, hS2⟩ := hS f avs s.st r st' hO
  by_cases hlt : f < XB
  case neg =>
    exfalso
    have key : ∀ (xs : List SV) (n es : Nat) (rest : List SV), avs = .sl xs n (.excl es) :: rest → False := by
      rintro xs n es rest rfl
      have := hv.2 0 (by rw [hv.1]; simp) (by simp)
      simp only [List.getElem_cons_zero] at this
      generalize vs[0]'(by rw [hv.1]; simp) = v0 at this
      cases this with
      | slz _ _ _ hf => rcases hf with h | h <;> cases h
      | sl _ _ _ _ _ _ _ _ _ _ _ _ hf' => obtain ⟨⟨q, hq, _⟩, _⟩ := hf'; cases hq
    obtain ⟨_, _, es, rest, ys, m, _, _, ⟨xs, n, k, _, e, _⟩ | ⟨e, _⟩⟩ := hS2 (Nat.le_of_not_lt hlt)
    · exact key _ _ _ _ e
    · exact key _ _ _ _ e
  obtain ⟨hp, hR⟩ := hS1 hlt
  have hc := hR (g.re outer) w vs (clean_outer g) (h.inv.re outer outer_cell (fun id => outer_obj id [])) ⟨hv.1, fun i h1 h2 => (hv.2 i h1 h2).relabel_same _ (by intro q hq; cases hq)⟩
  unfold Oper.wp
  rw [hrun, run_callFunc hp, Oper.upon_enter]
  refine hc.mono ?_
  rintro e w' ⟨rv, g', rfl, hI, hv, hF, hns⟩
  obtain ⟨g'', hR'⟩ := back h hI hv hF hns o.dst
  exact hn rv g'' w' hR'

theorem wback_app {a : List Arg} : ∀ (p q : List (Nat × SV)) (env : List SV), wback a env (p ++ q) = wback a (wback a env p) q
  | [], _, _ => rfl
  | (j, v) :: p, q, env => by rw [List.cons_append, wback, wback, wback_app p q]
theorem wback_tail {ar : Arg} {rs : List Arg} : ∀ (vs : List SV) (k : Nat) (env : List SV), wback (ar :: rs) env (pubsFrom (k + 1) vs) = wback rs env (pubsFrom k vs)
  | [], _, _ => rfl
  | v :: vs, k, env => by
    unfold pubsFrom
    split
    · rw [wback, wback, List.getElem?_cons_succ, wback_tail vs (k + 1)]
    · exact wback_tail vs (k + 1) env
theorem wback_get {a : List Arg} {t : Nat} (ha : Arg.slot t ∉ a) : ∀ (p : List (Nat × SV)) (env : List SV), (wback a env p).getD t .undef = env.getD t .undef
  | [], _ => rfl
  | (j, v) :: p, env => by
    rw [wback, wback_get ha p]
    split
    · rename_i t' ht'
      have hm := List.mem_of_getElem? ht'
      have hne : t' ≠ t := by rintro rfl; exact ha hm
      simp only [List.getD_eq_getElem?_getD, List.getElem?_set_ne hne]
    · rfl
theorem pub_of {v : SV} (h : exc v = false) : Sh.pub v = v := by
  unfold Sh.pub
  split
  · simp [exc] at h
  · rfl
/-- What is handed over where the callee may know whose it is. -/
theorem Rel.gotsP (h : Rel g0 w0 g s a w) {vs : List Arg} {xs : List Operand} (hl : vs.length = xs.length) (hx : ∀ i (h : i < vs.length) (h' : i < xs.length), AOk g w s a (xs[i]'h') (vs[i]'h)) :
    ∃ g', Rel g0 w0 g' { s with env := wback vs s.env (pubs (vs.map (Arg.raw s))) } a w ∧ ∀ i (h : i < vs.length) (h' : i < xs.length), ∃ o, V g' w o (a.eval (xs[i]'h')) (Sh.pub ((vs[i]'h).raw s)) := by
  obtain ⟨g', s'', k1, k2, k3, k4, _⟩ := Rel.gotsFrom (vs0 := vs) vs [] s g rfl h (Pubd.refl s) (fun ar hm he => by
    obtain ⟨i, hi, rfl⟩ := List.getElem_of_mem hm
    exact (hx i hi (by omega)).flg_slot (exc_flg he))
  have e : s'' = { s with env := wback vs s.env (pubs (vs.map (Arg.raw s))) } := by rw [k1]; rfl
  refine ⟨g', e ▸ k2, fun i hi hi' => ?_⟩
  have hA := (hx i hi hi')
  generalize xs[i] = x at hA
  cases har : vs[i] with
  | lit v =>
    rw [har] at hA
    have hv := hA.lit v rfl g' w none
    simp only [Arg.raw]
    have hne : exc v = false := by
      rcases hb : exc v with _ | _
      · rfl
      · obtain ⟨t, ht⟩ := hA.flg_slot (exc_flg hb); cases ht
    rw [pub_of hne]
    exact ⟨_, hv⟩
  | slot t =>
    rw [har] at hA
    simp only [Arg.raw]
    rw [hA.eval t rfl]
    have hv := k2.env.get t
    by_cases he : exc (s.get t) = true
    · rw [k4 t (by rw [← har]; exact List.getElem_mem hi) he] at hv
      exact ⟨_, hv⟩
    · have he' : exc (s.get t) = false := by simpa using he
      rw [pub_of he']
      rcases k3.get t with h1 | ⟨h1, _⟩
      · rw [h1] at hv; exact ⟨_, hv⟩
      · exact absurd h1 he
/-- A call that takes its first operand over. -/
theorem callx_wp (hS : Sound P O) (h : Rel g0 w0 g s a w) {f : FuncId} {t d : Nat} {rs : List Arg} {xs : List Operand} {x0 : Operand} (hl : rs.length = xs.length) (hx : ∀ i (h : i < rs.length) (h' : i < xs.length), AOk g w s a (xs[i]'h') (rs[i]'h))
    (hx0 : a.eval x0 = a.eval (.tmp t)) (hap : Arg.slot t ∉ rs) (hd : o.dst = some d) (htd : t ≠ d) {r hv : SV} {st' : List Ob} (hhv : headX (s.get t) = some hv) (hO : O (XB + f) (hv :: (rs.map (Arg.raw s)).map Sh.pub) s.st r st')
    (hrun : (execOp a.eval o).run P w = (callFunc f (a.eval x0 :: xs.map a.eval).toArray).run P w) {next : Act → World → Prop} {Q : Exit → Act → World → Prop}
    (hn : ∀ rv g' w', Rel g0 w0 g' (S.put { env := wback (.slot t :: rs) s.env (pubsFrom 1 (rs.map (Arg.raw s)) ++ [(0, .undef)]), st := st' } o.dst r) (a.put o.dst rv) w' → next (a.put o.dst rv) w') : o.wp P a w next Q := by
  have hR := (hS (XB + f) _ s.st r st' hO).2 (Nat.le_add_right _ _)
  rw [Nat.add_sub_cancel_left] at hR
  obtain ⟨hp, rfl, es, rest, ys, m, rfl, hyl, hC⟩ := hR
  obtain ⟨g1, hR1, hV⟩ := h.gotsP hl hx
  generalize hs1 : ({ s with env := wback rs s.env (pubs (rs.map (Arg.raw s))) } : S) = s1 at hR1
  have hget : s1.get t = s.get t := by
    rw [← hs1]
    show (wback rs s.env _).getD t .undef = _
    rw [wback_get hap]
    rfl
  have hvs : (xs.map a.eval).length = ((rs.map (Arg.raw s)).map Sh.pub).length ∧ ∀ i (h1 : i < (xs.map a.eval).length) (h2 : i < ((rs.map (Arg.raw s)).map Sh.pub).length), ∃ o, V g1 w o ((xs.map a.eval)[i]'h1) (((rs.map (Arg.raw s)).map Sh.pub)[i]'h2) := ⟨by simp [hl], fun i h1 h2 => by
      simp only [List.length_map] at h1 h2
      have := hV i (by simpa using h2) h1
      simpa using this⟩
  rcases hC with ⟨zs, n, k, rfl, hargs, hC⟩ | ⟨hargs, hC⟩
  · obtain ⟨hz, rfl⟩ := List.cons.inj hargs
    subst hz
    have hz1 : s1.get t = .sl zs n (.excl (k + 1)) := by
      rw [hget]
      generalize s.get t = v at hhv
      unfold headX at hhv
      split at hhv
      · simpa using hhv
      · simp at hhv
      · cases hhv
    have hv0 := hR1.env.get t
    rw [hz1] at hv0
    generalize hev : a.eval (.tmp t) = v0 at hv0
    cases hv0 with
    | slz _ ad fl hf => rcases hf with h | h <;> cases h
    | sl _ b off _ cap _ _ F hlen hcell hone hxx hf =>
      obtain ⟨⟨q, hq, hw⟩, rfl, h2, h3, h4⟩ := hf
      cases hq
      have hc := hC g1 w b cap F (xs.map a.eval) hlen hcell hone hxx h2 h3 h4 hvs
      unfold Oper.wp
      rw [hrun, run_callFunc hp, hx0, hev, Oper.upon_enter]
      refine hc.mono ?_
      rintro e w' ⟨b', cap', F', rfl, k1, ⟨k2, k3, k4, k5⟩, k6, k7, k8, k9⟩
      obtain ⟨g', hR'⟩ := hR1.repl (d := d) hz1 htd hev k2 k3 k4 k5 k6 k7 k1 k8 hyl k9
      refine hn _ g' w' ?_
      rw [hd, wback_app, wback_tail]
      subst hs1
      exact hR'
  · obtain ⟨hz, rfl⟩ := List.cons.inj hargs
    subst hz
    have hz1 : s1.get t = .nilS := by
      rw [hget]
      generalize s.get t = v at hhv
      unfold headX at hhv
      split at hhv
      · simp at hhv
      · rfl
      · cases hhv
    have hv0 := hR1.env.get t
    rw [hz1] at hv0
    generalize hev : a.eval (.tmp t) = v0 at hv0
    cases hv0 with
    | nilS =>
      have hc := hC g1 w (xs.map a.eval) hvs
      unfold Oper.wp
      rw [hrun, run_callFunc hp, hx0, hev, Oper.upon_enter]
      refine hc.mono ?_
      rintro e w' ⟨b', cap', F', rfl, k1, ⟨k2, k3, k4, k5⟩, k6, k7, k8, k9⟩
      obtain ⟨g', hR'⟩ := hR1.fresh (t := t) (d := d) k2 k3 k4 k5 k6 k7 k1 k8 hyl k9
      refine hn _ g' w' ?_
      rw [hd, wback_app, wback_tail]
      subst hs1
      exact hR'

/-- How an operation may be turned. -/
def COk (P : Program) (res : List Nat) (σ : Sg) (o : Oper) (c : Opc) (as : List Arg) : Prop := cOp P res σ o = some (c, as) ∨ (∃ x ar, o.op = .move x ∧ argOf σ x = some ar ∧ c = .take ∧ as = [ar]) ∨ ∃ t e x i es ax ai, o.op = .indexAddr t x i ∧ P.underlying t = some (.slice e) ∧ sz P e = some es ∧ argOf σ x = some ax ∧ argOf σ i = some ai ∧ (c = .idxB es ∨ c = .idxO es) ∧ as = [ax, ai]

theorem ite_or {α : Type} (c : Prop) [Decidable c] (a b : α) : (if c then a else b) = b ∨ (if c then a else b) = a := by by_cases h : c <;> simp [h]
theorem COk.of (h : cOpR P res σ o = some (c, as)) : COk P res σ o c as := by
  unfold cOpR at h
  split at h
  · rename_i x _ ho _
    simp only [Option.map_eq_some_iff, Prod.mk.injEq] at h
    obtain ⟨ar, hx, rfl, rfl⟩ := h
    exact .inr (.inl ⟨x, ar, ho, hx, rfl, rfl⟩)
  · rename_i t x i ho
    split at h
    · rename_i e ht
      simp only [Option.bind_eq_bind, Option.bind_eq_some_iff, Option.some.injEq, Prod.mk.injEq] at h
      obtain ⟨es, hn, ax, hx, ai, hi, hcc, rfl⟩ := h
      refine .inr (.inr ⟨t, e, x, i, es, ax, ai, ho, ht, hn, hx, hi, ?_, rfl⟩)
      rw [← hcc]
      exact ite_or _ _ _
    · exact .inl h
  · exact .inl h

theorem put_self {a : Act} {t : Nat} : a.put (some t) (a.eval (.tmp t)) = a := by
  unfold Act.put
  simp only [Act.eval]
  congr 1
  apply Array.ext
  · simp
  · intro i h1 h2
    rw [Array.getElem_setIfInBounds]
    split
    · rename_i e
      subst e
      simp [h2]
    · rfl
/-- A slice that nobody else has is indexed: it becomes an object first. -/
theorem eff_idxO (h : Rel g0 w0 g s a w) {t e : TypeId} {x i : Operand} {es : Nat} {ax ai : Arg} (ho : o.op = .indexAddr t x i) (ht : P.underlying t = some (.slice e)) (hn : sz P e = some es) (hσ : Sub σ a)
    (hx : argOf σ x = some ax) (hi : argOf σ i = some ai) {r : SV} {wb : List (Nat × SV)} {st' : List Ob} (he : ev s.st (.idxO es) ([ax, ai].map (Arg.raw s)) = some (r, wb, st')) : EffOk P g0 w0 (S.put { env := wback [ax, ai] s.env wb, st := st' } o.dst r) a w o := by
  have hax := AOk.of h.env hσ hx
  have hai := AOk.of h.env hσ hi
  simp only [List.map_cons, List.map_nil] at he
  generalize hax' : ax.raw s = sx at he
  generalize hai' : ai.raw s = si at he
  cases sx <;> first | (simp [ev, pv] at he; done) | skip
  · rename_i xs n fl
    cases fl <;> first | (simp [ev, pv] at he; done) | skip
    rename_i k
    cases si <;> first | (simp [ev, pv] at he; done) | skip
    rename_i kk m
    simp only [ev] at he
    split at he
    · rename_i hb
      obtain ⟨hb0, hb1, rfl⟩ := hb
      simp only [Option.some.injEq, Prod.mk.injEq] at he
      obtain ⟨rfl, rfl, rfl⟩ := he
      obtain ⟨t', rfl⟩ := hax.flg_slot (by rw [hax']; rfl)
      simp only [Arg.raw] at hax'
      obtain ⟨g1, b, cap, hev, hle, hρ, hR⟩ := h.objs hax'
      have hR1 := hR.put (d := some t') (rv := a.eval (.tmp t')) (v := .slo s.st.length 0 n) (fun d hd => by rw [hev]; exact .slo _ _ _ _ _ _ hle hρ)
      rw [put_self] at hR1
      have e1 : (S.put { env := s.env.set t' .undef, st := s.st ++ [.cells xs] } (some t') (.slo s.st.length 0 n)) = { env := s.env.set t' (.slo s.st.length 0 n), st := s.st ++ [.cells xs] } := by
        simp [S.put]
      rw [e1] at hR1
      obtain ⟨hlt, _⟩ := get_lt hax' (by simp)
      have hai2 : ai.raw { env := s.env.set t' (.slo s.st.length 0 n), st := s.st ++ [.cells xs] } = .int kk m := by
        cases ai with
        | lit v => exact hai'
        | slot u =>
          simp only [Arg.raw] at hai' ⊢
          have hne : t' ≠ u := by rintro rfl; rw [hax'] at hai'; cases hai'
          rw [← hai']
          simp only [S.get, List.getD_eq_getElem?_getD, List.getElem?_set_ne hne]
      have hax2 : (Arg.slot t').raw { env := s.env.set t' (.slo s.st.length 0 n), st := s.st ++ [.cells xs] } = .slo s.st.length 0 n := by
        simp [Arg.raw, S.get, hlt]
      have := eff_idxB hR1 ho ht hn (AOk.of hR1.env hσ hx) (AOk.of hR1.env hσ hi) (r := .ptr s.st.length (m.toNat * k)) (wb := []) (st' := s.st ++ [.cells xs]) (by
        simp only [List.map_cons, List.map_nil, hai2, hax2, ev]
        rw [if_pos ⟨hb0, hb1⟩, Nat.zero_add])
      simpa [wback] using this
    · cases he
  · rename_i id off n
    cases si <;> first | (simp [ev, pv] at he; done) | skip
    refine eff_idxB h ho ht hn hax hai ?_
    simp only [List.map_cons, List.map_nil, hax', hai']
    simpa only [ev] using he

theorem op_wp (hS : Sound P O) (h : Rel g0 w0 g s a w) (hσ : Sub σ a) (hc : COk P res σ o c as) (hd : ∀ t, .slot t ∈ as → o.dst ≠ some t) (hcl : isCall c = true → opCall o.op = true) {r : SV} {wb : List (Nat × SV)} {st' : List Ob} (he : stepV O s.st c (as.map (Arg.raw s)) r wb st')
    {next : Act → World → Prop} {Q : Exit → Act → World → Prop}
    (hn : ∀ rv g' w', Rel g0 w0 g' (S.put { env := wback as s.env wb, st := st' } o.dst r) (a.put o.dst rv) w' → (∀ x, o.op = .move x → rv = a.eval x) → next (a.put o.dst rv) w') : o.wp P a w next Q := by
  have hA : ∀ {x : Operand} {ar : Arg}, argOf σ x = some ar → AOk g w s a x ar := fun hx => AOk.of h.env hσ hx
  have hAs : ∀ {xs : List Operand} {ars : List Arg}, xs.mapM (argOf σ) = some ars → ars.length = xs.length ∧ ∀ i (h1 : i < ars.length) (h2 : i < xs.length), AOk g w s a (xs[i]'h2) (ars[i]'h1) := fun hm => ⟨(mapM_get hm).1, fun i h1 h2 => hA ((mapM_get hm).2 i h1 h2)⟩
  by_cases hk : isCall c = false
  · have he' : ev s.st c (as.map (Arg.raw s)) = some (r, wb, st') := by
      unfold stepV at he
      cases c <;> first | exact he | (simp [isCall] at hk; done)
    obtain ⟨rv, w', g', hr, hR⟩ : EffOk P g0 w0 (S.put { env := wback as s.env wb, st := st' } o.dst r) a w o := by
      rcases hc with hc | ⟨x, ar, ho, hx, rfl, rfl⟩ | ⟨t, e, x, i, es, ax, ai, ho, ht, hsz, hx, hi, rfl | rfl, rfl⟩
      · exact op_all h hσ hc hd hk he'
      · exact eff_take h (.inl ho) (hA hx) he'
      · exact eff_idxB h ho ht hsz (hA hx) (hA hi) he'
      · exact eff_idxO h ho ht hsz hσ hx hi he'
    have hmv : ∀ x, o.op = .move x → rv = a.eval x := by
      intro x ho
      have e : (execOp a.eval o).run P w = .ok (.value (a.eval x)) w := by simp [execOp, ho]
      rcases hr with hr | ⟨hr, _⟩
      · rw [e] at hr; injection hr with h1; injection h1 with h2; exact h2.symm
      · rw [e] at hr; injection hr with h1; cases h1
    have := hn rv g' w' hR hmv
    unfold Oper.wp
    rcases hr with hr | ⟨hr, rfl⟩
    · rw [hr, Oper.upon_value]; exact this
    · rw [hr, Oper.upon_skip]; exact this
  · -- a call
    have hk' : isCall c = true := by simpa using hk
    have hop := hcl hk'
    replace hc : cOp P res σ o = some (c, as) := by
      rcases hc with hc | ⟨x, ar, ho, hx, rfl, rfl⟩ | ⟨t, e, x, i, es, ax, ai, ho, ht, hn, hx, hi, rfl | rfl, rfl⟩
      · exact hc
      · simp [isCall] at hk'
      · simp [isCall] at hk'
      · simp [isCall] at hk'
    cases ho : o.op <;> rw [ho] at hop <;> simp only [opCall, Bool.false_eq_true] at hop
    rename_i cl
    obtain ⟨callee, args, tys⟩ := cl
    cases callee with
    | builtin b =>
      exfalso
      by_cases hcp : b = .copy
      · subst hcp
        simp only [cOp, ho] at hc
        split at hc
        · have fin : ∀ {e : TypeId}, (if args.size != 2 then none else do some (.cpy (← sz P e), ← args.toList.mapM (argOf σ))) = some (c, as) → False := by
            intro e hc
            split at hc
            · cases hc
            · simp only [Option.bind_eq_bind, Option.bind_eq_some_iff, Option.some.injEq, Prod.mk.injEq] at hc
              obtain ⟨_, _, _, _, rfl, _⟩ := hc
              simp [isCall] at hk'
          split at hc
          · exact fin hc
          · exact fin hc
          · cases hc
        · cases hc
      have hc' : (if o.dst.isNone || args.size != tys.size then none else do some (← cBuiltin P b tys o.type, ← args.toList.mapM (argOf σ))) = some (c, as) := by
        cases b <;> first | exact absurd rfl hcp | (simpa only [cOp, ho] using hc)
      clear hc
      have hc := hc'
      clear hc'
      split at hc
      · cases hc
      · simp only [Option.bind_eq_bind, Option.bind_eq_some_iff, Option.some.injEq, Prod.mk.injEq] at hc
        obtain ⟨c', hcb, _, _, rfl, _⟩ := hc
        unfold cBuiltin at hcb
        repeat' split at hcb
        all_goals first
          | (simp only [Option.some.injEq] at hcb; subst hcb; simp [isCall] at hk'; done)
          | cases hcb
          | (simp only [Option.bind_eq_bind, Option.bind_eq_some_iff] at hcb
             obtain ⟨_, _, _, _, _, _, hcb⟩ := hcb
             split at hcb
             · simp only [Option.some.injEq] at hcb; subst hcb; simp [isCall] at hk'
             · cases hcb)
    | invoke x m => simp [cOp, ho] at hc
    | value fo =>
      have direct : ∀ (f : FuncId) (rs : List Arg), args.toList.mapM (argOf σ) = some rs → c = .call f → as = rs → fo = .func f → o.wp P a w next Q := by
        rintro f rs hrs rfl rfl rfl
        obtain ⟨hrl, hra⟩ := hAs hrs
        obtain ⟨hO, rfl⟩ := he
        obtain ⟨g1, hR, hV⟩ := h.gots hrl hra
        refine call_wp hS hR hO (vs := args.toList.map a.eval) ⟨by simp; simpa using hrl.symm, fun i h1 h2 => ?_⟩ ?_ fun rv g' w' hR' => hn rv g' w' hR' (fun x hx => by rw [ho] at hx; cases hx)
        · simp only [List.length_map] at h1 h2
          have := hV i (by simpa using h2) h1
          simpa using this
        · simp only [execOp, ho, resolve, Sem.run_bind, Act.eval, Deferred.ofValue, Sem.run_pure, Result.andThen_ok, invoke]
          congr 2
          apply Array.ext'
          simp [Act.eval]
      have taken : ∀ (f : FuncId) (rs : List Arg), args.toList.mapM (argOf σ) = some rs → c = .callx f → as = rs → fo = .func f → o.dst.isSome = true → headApart rs = true → o.wp P a w next Q := by
        rintro f rs hrs rfl rfl rfl hds hha
        obtain ⟨hrl, hra⟩ := hAs hrs
        cases hal : as with
        | nil => rw [hal] at hha; simp [headApart] at hha
        | cons ar rs =>
        subst hal
        cases har : ar with
        | lit v => rw [har] at hha; simp [headApart] at hha
        | slot t =>
        subst har
        obtain ⟨⟨hv, hhv, hO⟩, rfl⟩ := he
        obtain ⟨d, hdd⟩ := Option.isSome_iff_exists.1 hds
        have htd : t ≠ d := by
          rintro rfl
          exact hd t (by simp) hdd
        have hap : Arg.slot t ∉ rs := by
          intro hm
          simp only [headApart, Bool.not_eq_true', List.contains_eq_mem, decide_eq_false_iff_not, slots, List.mem_filterMap, not_exists, not_and] at hha
          exact hha _ hm rfl
        cases hargs : args.toList with
        | nil => rw [hargs] at hrl; simp at hrl
        | cons x0 xs =>
        simp only [hargs] at hrl hra
        have h0 := hra 0 (by simp) (by simp)
        simp only [List.getElem_cons_zero] at h0
        refine callx_wp (rs := rs) (xs := xs) (x0 := x0) hS h (by simpa using hrl) (fun i h1 h2 => by
          have := hra (i + 1) (by simpa using h1) (by simpa using h2)
          simpa using this) (h0.eval t rfl) hap hdd htd hhv hO ?_ fun rv g' w' hR' => hn rv g' w' hR' (fun x hx => by rw [ho] at hx; cases hx)
        simp only [execOp, ho, resolve, Sem.run_bind, Act.eval, Deferred.ofValue, Sem.run_pure, Result.andThen_ok, invoke]
        congr 2
        apply Array.ext'
        simp [hargs, Act.eval]
      have viav : ∀ (ar : Arg) (rs : List Arg), argOf σ fo = some ar → args.toList.mapM (argOf σ) = some rs → c = .callv → as = ar :: rs → o.wp P a w next Q := by
        rintro ar rs hx hrs rfl rfl
        obtain ⟨hrl, hra⟩ := hAs hrs
        obtain ⟨⟨f, first, cap, hfn, hO⟩, rfl⟩ := he
        obtain ⟨g1, hR, hV⟩ := h.gots (vs := ar :: rs) (xs := fo :: args.toList) (by simpa using hrl) (fun i h1 h2 => by
          cases i with
          | zero => exact hA hx
          | succ i => exact hra i (by simpa using h1) (by simpa using h2))
        have hf0 := hV 0 (by simp) (by simp)
        simp only [List.getElem_cons_zero] at hf0
        change Arg.raw s ar = _ at hfn
        rw [hfn] at hf0
        change V g1 w none (a.eval fo) (.fn f first cap) at hf0
        generalize hev : a.eval fo = fv at hf0
        cases hf0 with
        | fn _ _ cs ds _ _ hl hm hx1 hy1 =>
          have v1 : Vs g1 w cs.toList first := ⟨by simpa using hl, fun i h1 h2 => by simpa using hx1 i (by simpa using h1) h2⟩
          have v2 : Vs g1 w (args.toList.map a.eval) ((rs.map (Arg.raw s)).map Sh.got) := ⟨by simp; simp at hrl; omega, fun i h1 h2 => by
            simp only [List.length_map] at h1 h2
            have := hV (i + 1) (by simpa using h2) (by simpa using h1)
            simpa using this⟩
          have v3 : Vs g1 w ds.toList cap := ⟨by simpa using hm, fun i h1 h2 => by simpa using hy1 i (by simpa using h1) h2⟩
          refine call_wp hS hR hO ((v1.append v2).append v3) ?_ fun rv g' w' hR' => hn rv g' w' hR' (fun x hx => by rw [ho] at hx; cases hx)
          · simp only [execOp, ho, resolve, Sem.run_bind, hev, Deferred.ofValue, Sem.run_pure, Result.andThen_ok, invoke]
            congr 2
            apply Array.ext'
            simp
      cases fo with
      | func f =>
        simp only [cOp, ho] at hc
        split at hc
        · split at hc
          · simp only [Option.bind_eq_bind, Option.bind_eq_some_iff, Option.some.injEq, Prod.mk.injEq] at hc
            obtain ⟨rs, hrs, hcc, rfl⟩ := hc
            split at hcc
            · rename_i hxc
              simp only [Bool.and_eq_true] at hxc
              exact taken f rs hrs hcc.symm rfl rfl hxc.2.1 hxc.2.2
            · exact direct f rs hrs hcc.symm rfl rfl
          · cases hc
        · cases hc
      | _ =>
        simp only [cOp, ho, Option.bind_eq_bind, Option.bind_eq_some_iff, Option.some.injEq, Prod.mk.injEq] at hc
        obtain ⟨ar, hx, rs, hrs, rfl, rfl⟩ := hc
        exact viav ar rs hx hrs rfl rfl

end
end Go.Sh
