/-
  The shadow machine, part W: rows of operations, the code, functions.
-/
import Derived.Test.YtlknoahpliaigaaDoorShU
import Derived.Deep.LoopGhost
set_option linter.unusedSimpArgs false
set_option linter.unusedVariables false
namespace Go.Sh
section
variable {P : Program} {O : Orc} {g0 : Gh} {w0 : World} {g : Gh} {w : World} {s : S} {a : Act} {o : Oper} {σ : Sg} {res : List Nat} {c : Opc} {as : List Arg}
theorem run_callFunc {f : FuncId} (h : Plain P f) (vs : Array Value) : (callFunc f vs).run P w = .ok (.enter f vs) w := by
  obtain ⟨fn, h1, h2, h3⟩ := h
  have h2' : ¬ (fn.body.isNone = true) := by rw [h2]; simp
  have h3' : ¬ ((fn.name == "runtime.NumGoroutine") = true) := by rw [h3]; simp
  simp only [callFunc, Sem.run_bind, run_program, Result.andThen_ok, h1]
  rw [if_neg h3', if_neg h2']
  rfl
def Vs (g : Gh) (w : World) (vs : List Value) (svs : List SV) : Prop := vs.length = svs.length ∧ ∀ i (h : i < vs.length) (h' : i < svs.length), V g w none (vs[i]'h) (svs[i]'h')
theorem Vs.append {xs ys : List Value} {us vs : List SV} (h : Vs g w xs us) (k : Vs g w ys vs) : Vs g w (xs ++ ys) (us ++ vs) := by
  refine ⟨by simp [h.1, k.1], fun i h1 h2 => ?_⟩
  rw [List.getElem_append, List.getElem_append]
  by_cases hi : i < xs.length
  · rw [dif_pos hi, dif_pos (by rw [← h.1]; exact hi)]
    exact h.2 i hi _
  · rw [dif_neg hi, dif_neg (by rw [← h.1]; exact hi)]
    have := k.2 (i - xs.length) (by rw [List.length_append] at h1; omega) (by rw [List.length_append] at h2; have := h.1; omega)
    simpa only [h.1] using this
theorem call_wp (hS : Sound P O) (h : Rel g0 w0 g s a w) {f : FuncId} {avs : List SV} {r : SV} {st' : List Ob} (hO : O f avs s.st r st') {vs : List Value} (hv : vs.length = avs.length ∧ ∀ i (h : i < vs.length) (h' : i < avs.length), V g w none (vs[i]'h) (avs[i]'h'))
    (hrun : (execOp a.eval o).run P w = (callFunc f vs.toArray).run P w) {next : Act → World → Prop} {Q : Exit → Act → World → Prop}
    (hn : ∀ rv g' w', Rel g0 w0 g' (S.put { s with st := st' } o.dst r) (a.put o.dst rv) w' → next (a.put o.dst rv) w') : o.wp P a w next Q := by
  obtain ⟨hp, hR⟩ := hS f avs s.st r st' hO
  have hc := hR (g.re outer) w vs (clean_outer g) (h.inv.re outer outer_cell (fun id => outer_obj id [])) ⟨hv.1, fun i h1 h2 => (hv.2 i h1 h2).relabel_same _ (by intro q hq; cases hq)⟩
  unfold Oper.wp
  rw [hrun, run_callFunc hp, Oper.upon_enter]
  refine hc.mono ?_
  rintro e w' ⟨rv, g', rfl, hI, hv, hF, hns⟩
  obtain ⟨g'', hR'⟩ := back h hI hv hF hns o.dst
  exact hn rv g'' w' hR'
def COk (P : Program) (res : List Nat) (σ : Sg) (o : Oper) (c : Opc) (as : List Arg) : Prop := cOp P res σ o = some (c, as) ∨ (∃ x ar, o.op = .move x ∧ argOf σ x = some ar ∧ c = .take ∧ as = [ar]) ∨ ∃ t e x i es ax ai, o.op = .indexAddr t x i ∧ P.underlying t = some (.slice e) ∧ sz P e = some es ∧ argOf σ x = some ax ∧ argOf σ i = some ai ∧ c = .idxB es ∧ as = [ax, ai]
theorem COk.of (h : cOpR P res σ o = some (c, as)) : COk P res σ o c as := by
  unfold cOpR at h
  split at h
  · rename_i x _ ho _
    simp only [Option.map_eq_some_iff, Prod.mk.injEq] at h
    obtain ⟨ar, hx, rfl, rfl⟩ := h
    exact .inr (.inl ⟨x, ar, ho, hx, rfl, rfl⟩)
  · rename_i t x i ho
    split at h
    · rename_i e ht
      simp only [Option.bind_eq_bind, Option.bind_eq_some_iff, Option.some.injEq, Prod.mk.injEq] at h
      obtain ⟨es, hn, ax, hx, ai, hi, rfl, rfl⟩ := h
      exact .inr (.inr ⟨t, e, x, i, es, ax, ai, ho, ht, hn, hx, hi, rfl, rfl⟩)
    · exact .inl h
  · exact .inl h
theorem op_wp (hS : Sound P O) (h : Rel g0 w0 g s a w) (hσ : Sub σ a) (hc : COk P res σ o c as) (hd : ∀ t, .slot t ∈ as → o.dst ≠ some t) (hcl : isCall c = true → opCall o.op = true) {r : SV} {wb : List (Nat × SV)} {st' : List Ob} (he : stepV O s.st c (as.map (Arg.raw s)) r wb st')
    {next : Act → World → Prop} {Q : Exit → Act → World → Prop}
    (hn : ∀ rv g' w', Rel g0 w0 g' (S.put { env := wback as s.env wb, st := st' } o.dst r) (a.put o.dst rv) w' → (∀ x, o.op = .move x → rv = a.eval x) → next (a.put o.dst rv) w') : o.wp P a w next Q := by
  have hA : ∀ {x : Operand} {ar : Arg}, argOf σ x = some ar → AOk g w s a x ar := fun hx => AOk.of h.env hσ hx
  have hAs : ∀ {xs : List Operand} {ars : List Arg}, xs.mapM (argOf σ) = some ars → ars.length = xs.length ∧ ∀ i (h1 : i < ars.length) (h2 : i < xs.length), AOk g w s a (xs[i]'h2) (ars[i]'h1) := fun hm => ⟨(mapM_get hm).1, fun i h1 h2 => hA ((mapM_get hm).2 i h1 h2)⟩
  by_cases hk : isCall c = false
  · have he' : ev s.st c (as.map (Arg.raw s)) = some (r, wb, st') := by
      unfold stepV at he
      cases c <;> first | exact he | (simp [isCall] at hk; done)
    obtain ⟨rv, w', g', hr, hR⟩ : EffOk P g0 w0 (S.put { env := wback as s.env wb, st := st' } o.dst r) a w o := by
      rcases hc with hc | ⟨x, ar, ho, hx, rfl, rfl⟩ | ⟨t, e, x, i, es, ax, ai, ho, ht, hsz, hx, hi, rfl, rfl⟩
      · exact op_all h hσ hc hd hk he'
      · exact eff_take h (.inl ho) (hA hx) he'
      · exact eff_idxB h ho ht hsz (hA hx) (hA hi) he'
    have hmv : ∀ x, o.op = .move x → rv = a.eval x := by
      intro x ho
      have e : (execOp a.eval o).run P w = .ok (.value (a.eval x)) w := by simp [execOp, ho]
      rcases hr with hr | ⟨hr, _⟩
      · rw [e] at hr; injection hr with h1; injection h1 with h2; exact h2.symm
      · rw [e] at hr; injection hr with h1; cases h1
    have := hn rv g' w' hR hmv
    unfold Oper.wp
    rcases hr with hr | ⟨hr, rfl⟩
    · rw [hr, Oper.upon_value]; exact this
    · rw [hr, Oper.upon_skip]; exact this
  · -- a call
    have hk' : isCall c = true := by simpa using hk
    have hop := hcl hk'
    replace hc : cOp P res σ o = some (c, as) := by
      rcases hc with hc | ⟨x, ar, ho, hx, rfl, rfl⟩ | ⟨t, e, x, i, es, ax, ai, ho, ht, hn, hx, hi, rfl, rfl⟩
      · exact hc
      · simp [isCall] at hk'
      · simp [isCall] at hk'
    cases ho : o.op <;> rw [ho] at hop <;> simp only [opCall, Bool.false_eq_true] at hop
    rename_i cl
    obtain ⟨callee, args, tys⟩ := cl
    cases callee with
    | builtin b =>
      exfalso
      by_cases hcp : b = .copy
      · subst hcp
        simp only [cOp, ho] at hc
        split at hc
        · have fin : ∀ {e : TypeId}, (if args.size != 2 then none else do some (.cpy (← sz P e), ← args.toList.mapM (argOf σ))) = some (c, as) → False := by
            intro e hc
            split at hc
            · cases hc
            · simp only [Option.bind_eq_bind, Option.bind_eq_some_iff, Option.some.injEq, Prod.mk.injEq] at hc
              obtain ⟨_, _, _, _, rfl, _⟩ := hc
              simp [isCall] at hk'
          split at hc
          · exact fin hc
          · exact fin hc
          · cases hc
        · cases hc
      have hc' : (if o.dst.isNone || args.size != tys.size then none else do some (← cBuiltin P b tys o.type, ← args.toList.mapM (argOf σ))) = some (c, as) := by
        cases b <;> first | exact absurd rfl hcp | (simpa only [cOp, ho] using hc)
      clear hc
      have hc := hc'
      clear hc'
      split at hc
      · cases hc
      · simp only [Option.bind_eq_bind, Option.bind_eq_some_iff, Option.some.injEq, Prod.mk.injEq] at hc
        obtain ⟨c', hcb, _, _, rfl, _⟩ := hc
        unfold cBuiltin at hcb
        repeat' split at hcb
        all_goals first
          | (simp only [Option.some.injEq] at hcb; subst hcb; simp [isCall] at hk'; done)
          | cases hcb
          | (simp only [Option.bind_eq_bind, Option.bind_eq_some_iff] at hcb
             obtain ⟨_, _, _, _, _, _, hcb⟩ := hcb
             split at hcb
             · simp only [Option.some.injEq] at hcb; subst hcb; simp [isCall] at hk'
             · cases hcb)
    | invoke x m => simp [cOp, ho] at hc
    | value fo =>
      have direct : ∀ (f : FuncId) (rs : List Arg), args.toList.mapM (argOf σ) = some rs → c = .call f → as = rs → fo = .func f → o.wp P a w next Q := by
        rintro f rs hrs rfl rfl rfl
        obtain ⟨hrl, hra⟩ := hAs hrs
        obtain ⟨hO, rfl⟩ := he
        obtain ⟨g1, hR, hV⟩ := h.gots hrl hra
        refine call_wp hS hR hO (vs := args.toList.map a.eval) ⟨by simp; simpa using hrl.symm, fun i h1 h2 => ?_⟩ ?_ fun rv g' w' hR' => hn rv g' w' hR' (fun x hx => by rw [ho] at hx; cases hx)
        · simp only [List.length_map] at h1 h2
          have := hV i (by simpa using h2) h1
          simpa using this
        · simp only [execOp, ho, resolve, Sem.run_bind, Act.eval, Deferred.ofValue, Sem.run_pure, Result.andThen_ok, invoke]
          congr 2
          apply Array.ext'
          simp [Act.eval]
      have viav : ∀ (ar : Arg) (rs : List Arg), argOf σ fo = some ar → args.toList.mapM (argOf σ) = some rs → c = .callv → as = ar :: rs → o.wp P a w next Q := by
        rintro ar rs hx hrs rfl rfl
        obtain ⟨hrl, hra⟩ := hAs hrs
        obtain ⟨⟨f, first, cap, hfn, hO⟩, rfl⟩ := he
        obtain ⟨g1, hR, hV⟩ := h.gots (vs := ar :: rs) (xs := fo :: args.toList) (by simpa using hrl) (fun i h1 h2 => by
          cases i with
          | zero => exact hA hx
          | succ i => exact hra i (by simpa using h1) (by simpa using h2))
        have hf0 := hV 0 (by simp) (by simp)
        simp only [List.getElem_cons_zero] at hf0
        change Arg.raw s ar = _ at hfn
        rw [hfn] at hf0
        change V g1 w none (a.eval fo) (.fn f first cap) at hf0
        generalize hev : a.eval fo = fv at hf0
        cases hf0 with
        | fn _ _ cs ds _ _ hl hm hx1 hy1 =>
          have v1 : Vs g1 w cs.toList first := ⟨by simpa using hl, fun i h1 h2 => by simpa using hx1 i (by simpa using h1) h2⟩
          have v2 : Vs g1 w (args.toList.map a.eval) ((rs.map (Arg.raw s)).map Sh.got) := ⟨by simp; simp at hrl; omega, fun i h1 h2 => by
            simp only [List.length_map] at h1 h2
            have := hV (i + 1) (by simpa using h2) (by simpa using h1)
            simpa using this⟩
          have v3 : Vs g1 w ds.toList cap := ⟨by simpa using hm, fun i h1 h2 => by simpa using hy1 i (by simpa using h1) h2⟩
          refine call_wp hS hR hO ((v1.append v2).append v3) ?_ fun rv g' w' hR' => hn rv g' w' hR' (fun x hx => by rw [ho] at hx; cases hx)
          · simp only [execOp, ho, resolve, Sem.run_bind, hev, Deferred.ofValue, Sem.run_pure, Result.andThen_ok, invoke]
            congr 2
            apply Array.ext'
            simp
      cases fo with
      | func f =>
        simp only [cOp, ho] at hc
        split at hc
        · split at hc
          · simp only [Option.bind_eq_bind, Option.bind_eq_some_iff, Option.some.injEq, Prod.mk.injEq] at hc
            obtain ⟨rs, hrs, rfl, rfl⟩ := hc
            exact direct f rs hrs rfl rfl rfl
          · cases hc
        · cases hc
      | _ =>
        simp only [cOp, ho, Option.bind_eq_bind, Option.bind_eq_some_iff, Option.some.injEq, Prod.mk.injEq] at hc
        obtain ⟨ar, hx, rs, hrs, rfl, rfl⟩ := hc
        exact viav ar rs hx hrs rfl rfl
end
end Go.Sh
