/-
  The shadow machine, part T: structs built, builtins, structs held against each other; all operations.
-/
import Derived.Test.YtihhaeklacphbaaDoorShR
set_option linter.unusedSimpArgs false
set_option linter.unusedVariables false
namespace Go.Sh

section
variable {P : Program} {g0 : Gh} {w0 : World} {g : Gh} {w : World} {s : S} {a : Act} {o : Oper} {σ : Sg} {res : List Nat} {c : Opc} {as : List Arg}

theorem run_mapM_places {fs : Array Field} {pl : List (Nat × Nat)} (h : fs.toList.mapM (fun f => (sz P f.type).map fun n => (f.offset, n)) = some pl) :
    (fs.mapM fun f => (do pure (f.offset, ← sizeOf f.type) : Sem (Nat × Nat))).run P w = .ok pl.toArray w := by
  rw [← Array.toArray_toList (xs := fs)]
  generalize fs.toList = l at h ⊢
  rw [List.mapM_toArray]
  suffices hl : (l.mapM fun f => (do pure (f.offset, ← sizeOf f.type) : Sem (Nat × Nat))).run P w = .ok pl w by
    simp only [bind_pure_comp] at hl ⊢
    simp [hl]
  induction l generalizing pl with
  | nil => simp at h; subst h; simp
  | cons f l ih =>
    simp only [List.mapM_cons, Option.bind_eq_bind, Option.bind_eq_some_iff, Option.pure_def, Option.some.injEq, Option.map_eq_some_iff] at h
    obtain ⟨p, ⟨n, hn, rfl⟩, r, hr, rfl⟩ := h
    have ih' := ih hr
    simp only [bind_pure_comp] at ih' ⊢
    simp [run_size hn, ih']

theorem op_bld (h : Rel g0 w0 g s a w) (hσ : Sub σ a) (hc : cOp P res σ o = some (c, as)) {r : SV} {wb : List (Nat × SV)} {st' : List Ob} (he : ev s.st c (as.map (Arg.raw s)) = some (r, wb, st'))
    {t : TypeId} {parts : Array (Nat × Operand)} (ho : o.op = .build t parts) : EffOk P g0 w0 (S.put { env := wback as s.env wb, st := st' } o.dst r) a w o := by
  have hA : ∀ {x : Operand} {ar : Arg}, argOf σ x = some ar → AOk g w s a x ar := fun hx => AOk.of h.env hσ hx
  have hAs : ∀ {xs : List Operand} {ars : List Arg}, xs.mapM (argOf σ) = some ars → ars.length = xs.length ∧ ∀ i (h1 : i < ars.length) (h2 : i < xs.length), AOk g w s a (xs[i]'h2) (ars[i]'h1) := fun hm => ⟨(mapM_get hm).1, fun i h1 h2 => hA ((mapM_get hm).2 i h1 h2)⟩
  simp only [cOp, ho, Option.bind_eq_bind, Option.bind_eq_some_iff] at hc
  obtain ⟨zs, hz, hc⟩ := hc
  split at hc
  · rename_i fs ht
    simp only [Option.bind_eq_some_iff, Option.some.injEq, Prod.mk.injEq] at hc
    obtain ⟨pl, hpl, at_, hat, rs, hrs, rfl, rfl⟩ := hc
    obtain ⟨hrl, hra⟩ := hAs hrs
    obtain ⟨hl1, hl2⟩ := mapM_get hat
    refine eff_bld h (place := fun j => pl[j]?) ho hz (fun z C hzz hC => ?_) ⟨by simpa using hl1, fun j h1 h2 => by have := hl2 j h2 (by simpa using h1); rwa [Array.getElem_toList] at this⟩ hrl hra he
    obtain ⟨i, hi, hz1⟩ := Option.bind_eq_some_iff.1 hzz
    simp only [Instr.build, Sem.run_bind, zeroValue, run_info hi, hz1, Result.andThen_ok, run_und ht, Sem.run_pure, run_mapM_places hpl]
    have e : (parts.map fun p => (p.1, a.eval p.2)).toList = parts.toList.map fun p => (p.1, a.eval p.2) := by simp
    rw [e]
    have e2 : (fun (j : Nat) => (pl.toArray)[j]?) = fun (j : Nat) => pl[j]? := by funext j; simp
    rw [e2]
    rw [hC]
    rfl
  · rename_i n e ht
    simp only [Option.bind_eq_some_iff, Option.some.injEq, Prod.mk.injEq] at hc
    obtain ⟨m, hm, rs, hrs, rfl, rfl⟩ := hc
    obtain ⟨hrl, hra⟩ := hAs hrs
    refine eff_bld h (place := fun j => some (j * m, m)) ho hz (fun z C hzz hC => ?_) ⟨by simp, fun j h1 h2 => by simp⟩ hrl hra he
    obtain ⟨i, hi, hz1⟩ := Option.bind_eq_some_iff.1 hzz
    simp only [Instr.build, Sem.run_bind, zeroValue, run_info hi, hz1, Result.andThen_ok, run_und ht, Sem.run_pure, run_size hm]
    have e : (parts.map fun p => (p.1, a.eval p.2)).toList = parts.toList.map fun p => (p.1, a.eval p.2) := by simp
    rw [e]
    rw [hC]
    rfl
  · cases hc

theorem arr_two {α : Type} {x : Array α} {p q : α} (h : x.toList = [p, q]) : x = #[p, q] := by
  apply Array.ext'; simpa using h
theorem arr_one {α : Type} {x : Array α} {p : α} (h : x.toList = [p]) : x = #[p] := by
  apply Array.ext'; simpa using h

/-- 'copy' into a slice of an object. -/
theorem eff_cpy (h : Rel g0 w0 g s a w) {t u e : TypeId} {x y : Operand} {es : Nat} {ax ay : Arg} (ho : o.op = .call { callee := .builtin .copy, args := #[x, y], argTypes := #[t, u] }) (ht : P.underlying t = some (.slice e)) (hn : sz P e = some es)
    (hax : AOk g w s a x ax) (hay : AOk g w s a y ay) (hu : (∃ e', P.underlying u = some (.slice e')) ∨ P.underlying u = some .string) {r : SV} {wb : List (Nat × SV)} {st' : List Ob}
    (he : ev s.st (.cpy es) [ax.raw s, ay.raw s] = some (r, wb, st')) : EffOk P g0 w0 (S.put { env := wback [ax, ay] s.env wb, st := st' } o.dst r) a w o := by
  obtain ⟨ox, hvx⟩ := hax.V
  obtain ⟨oy, hvy⟩ := hay.V
  generalize hx' : ax.raw s = sx at he hvx
  cases sx <;> first | (simp [ev, pv] at he; done) | skip
  rename_i id off n
  simp only [ev, cpyV] at he
  obtain ⟨⟨m, ys⟩, hsrc, he⟩ := Option.bind_eq_some_iff.1 he
  simp only at he
  split at he
  · rename_i l hl
    split at he
    · rename_i hc
      obtain ⟨hmn, hyl, hfit⟩ := hc
      simp only [Option.some.injEq, Prod.mk.injEq] at he
      obtain ⟨rfl, rfl, rfl⟩ := he
      obtain ⟨news, hS, hnl, hnv⟩ := src_ok h.inv hvy hsrc hu
      generalize hxv : a.eval x = xv at hvx
      cases hvx with
      | slo _ _ _ _ b cap hlen hid =>
        have hC : Cs g w news.toArray ys := ⟨by simpa using hnl, fun i h1 h2 => ⟨by simpa using hS.one _ (List.getElem_mem (by simpa using h1)), by simpa using hnv i (by simpa using h1) h2⟩⟩
        obtain ⟨k1, k2, hR⟩ := h.write hid hl hC hfit
        have hst := run_storeCells_cells (P := P) b off news 0 w (by simpa using k1) (by simpa using k2) hS.one
        have hmin : Nat.min m n = m := Nat.min_eq_left hmn
        refine ⟨.int .i64 m, _, g, .inl ?_, hR.put fun _ _ => .int _ _ _⟩
        have hcells := hS.cells
        simp only [Nat.add_zero] at hst
        have hlm := hS.len w
        simp [execOp, ho, resolve, invoke, builtin, Builtin.copy_, run_und ht, hxv, hlm, hmin, run_size hn, hcells, hst, goInt]
    · cases he
  · cases he

theorem op_builtin (h : Rel g0 w0 g s a w) (hσ : Sub σ a) (hc : cOp P res σ o = some (c, as)) (hd : ∀ t, .slot t ∈ as → o.dst ≠ some t) {r : SV} {wb : List (Nat × SV)} {st' : List Ob} (he : ev s.st c (as.map (Arg.raw s)) = some (r, wb, st'))
    {b : Builtin} {cl : Call} (ho : o.op = .call cl) (hb : cl.callee = .builtin b) : EffOk P g0 w0 (S.put { env := wback as s.env wb, st := st' } o.dst r) a w o := by
  have hA : ∀ {x : Operand} {ar : Arg}, argOf σ x = some ar → AOk g w s a x ar := fun hx => AOk.of h.env hσ hx
  obtain ⟨callee, args, tys⟩ := cl
  simp only at hb
  subst hb
  by_cases hcp : b = .copy
  · subst hcp
    simp only [cOp, ho] at hc
    split at hc
    · rename_i t u hts
      have fin : ∀ {e : TypeId}, P.underlying t = some (.slice e) → ((∃ e', P.underlying u = some (.slice e')) ∨ P.underlying u = some .string) → (if args.size != 2 then none else do some (.cpy (← sz P e), ← args.toList.mapM (argOf σ))) = some (c, as) → EffOk P g0 w0 (S.put { env := wback as s.env wb, st := st' } o.dst r) a w o := by
        intro e ht hu hc
        split at hc
        · cases hc
        · rename_i hsz
          simp only [bne_iff_ne, ne_eq, Decidable.not_not] at hsz
          simp only [Option.bind_eq_bind, Option.bind_eq_some_iff, Option.some.injEq, Prod.mk.injEq] at hc
          obtain ⟨es, hn, rs, hrs, rfl, rfl⟩ := hc
          obtain ⟨x, y, hx⟩ : ∃ x y, args.toList = [x, y] := by
            have h1 : args.toList.length = 2 := by simpa using hsz
            generalize args.toList = l at h1
            match l, h1 with
            | [x, y], _ => exact ⟨x, y, rfl⟩
          rw [hx] at hrs
          simp only [List.mapM_cons, List.mapM_nil, Option.bind_eq_bind, Option.bind_eq_some_iff, Option.pure_def, Option.some.injEq] at hrs
          obtain ⟨ar, h2, _, ⟨br, h3, _, rfl, rfl⟩, rfl⟩ := hrs
          have e1 : args = #[x, y] := arr_two hx
          have e2 : tys = #[t, u] := arr_two hts
          subst e1 e2
          exact eff_cpy h ho ht hn (hA h2) (hA h3) hu he
      split at hc
      · rename_i e e' ht hu
        exact fin ht (.inl ⟨e', hu⟩) hc
      · rename_i e ht hu
        exact fin ht (.inr hu) hc
      · cases hc
    · cases hc
  have hc' : (if o.dst.isNone || args.size != tys.size then none else do some (← cBuiltin P b tys o.type, ← args.toList.mapM (argOf σ))) = some (c, as) := by
    cases b <;> first | exact absurd rfl hcp | (simpa only [cOp, ho] using hc)
  clear hc
  have hc := hc'
  clear hc'
  split at hc
  · cases hc
  · rename_i hds
    simp only [Bool.or_eq_true, Option.isNone_iff_eq_none, bne_iff_ne, ne_eq, not_or, Decidable.not_not] at hds
    obtain ⟨hds, hsz⟩ := hds
    obtain ⟨d, hdd⟩ := Option.ne_none_iff_exists'.1 hds
    simp only [Option.bind_eq_bind, Option.bind_eq_some_iff, Option.some.injEq, Prod.mk.injEq] at hc
    obtain ⟨c', hcb, rs, hrs, rfl, rfl⟩ := hc
    unfold cBuiltin at hcb
    have one : ∀ t, tys.toList = [t] → ∃ x ar, args = #[x] ∧ rs = [ar] ∧ argOf σ x = some ar ∧ tys = #[t] := by
      intro t ht
      have h1 : args.toList.length = 1 := by
        have : tys.toList.length = 1 := by rw [ht]; rfl
        simp at this ⊢; omega
      obtain ⟨x, hx⟩ := List.length_eq_one_iff.1 h1
      rw [hx] at hrs
      simp only [List.mapM_cons, List.mapM_nil, Option.bind_eq_bind, Option.bind_eq_some_iff, Option.pure_def, Option.some.injEq] at hrs
      obtain ⟨ar, h2, _, rfl, rfl⟩ := hrs
      exact ⟨x, ar, arr_one hx, rfl, h2, arr_one ht⟩
    have two : ∀ t u, tys.toList = [t, u] → ∃ x y ar br, args = #[x, y] ∧ rs = [ar, br] ∧ argOf σ x = some ar ∧ argOf σ y = some br ∧ tys = #[t, u] := by
      intro t u ht
      have h1 : args.toList.length = 2 := by
        have : tys.toList.length = 2 := by rw [ht]; rfl
        simp at this ⊢; omega
      obtain ⟨x, y, hx⟩ : ∃ x y, args.toList = [x, y] := by
        generalize args.toList = l at h1
        match l, h1 with
        | [x, y], _ => exact ⟨x, y, rfl⟩
      rw [hx] at hrs
      simp only [List.mapM_cons, List.mapM_nil, Option.bind_eq_bind, Option.bind_eq_some_iff, Option.pure_def, Option.some.injEq] at hrs
      obtain ⟨ar, h2, _, ⟨br, h3, _, rfl, rfl⟩, rfl⟩ := hrs
      exact ⟨x, y, ar, br, arr_two hx, rfl, h2, h3, arr_two ht⟩
    split at hcb
    · rename_i t hts
      obtain ⟨x, ar, rfl, rfl, hx, rfl⟩ := one t hts
      obtain ⟨ow, hv⟩ := (hA hx).V
      split at hcb
      · rename_i ht
        simp only [Option.some.injEq] at hcb; subst hcb
        refine eff_pv h rfl he fun r hr => ?_
        simp only [List.map_cons, List.map_nil] at hr
        generalize ar.raw s = s1 at hr hv
        cases s1 <;> simp only [pv, Option.some.injEq, reduceCtorEq] at hr
        subst hr
        exact pv_lenS ho ht hv
      · rename_i n e ht
        simp only [Option.some.injEq] at hcb; subst hcb
        refine eff_pv h rfl he fun r hr => ?_
        simp only [List.map_cons, List.map_nil, pv, Option.some.injEq] at hr
        subst hr
        exact pv_lenA ho ht
      · rename_i e ht
        simp only [Option.some.injEq] at hcb; subst hcb
        exact eff_pv h rfl he fun r hr => pv_lenL ho ht hv hr
      · rename_i k e ht
        simp only [Option.some.injEq] at hcb; subst hcb
        exact eff_pv h rfl he fun r hr => pv_lenM h.inv ho ht hv hr
      · cases hcb
    · rename_i t u hts
      obtain ⟨x, y, ar, br, rfl, rfl, hx, hy, rfl⟩ := two t u hts
      obtain ⟨o1, v1⟩ := (hA hx).V
      obtain ⟨o2, v2⟩ := (hA hy).V
      split at hcb
      · simp only [Option.some.injEq] at hcb; subst hcb
        refine eff_pv h rfl he fun r hr => ?_
        simp only [List.map_cons, List.map_nil] at hr
        generalize ar.raw s = s1 at hr v1
        generalize br.raw s = s2 at hr v2
        cases s1 <;> cases s2 <;> simp only [pv, Option.some.injEq, reduceCtorEq] at hr
        subst hr
        exact pv_mm (mx := false) ho v1 v2
      · cases hcb
    · rename_i t u hts
      obtain ⟨x, y, ar, br, rfl, rfl, hx, hy, rfl⟩ := two t u hts
      obtain ⟨o1, v1⟩ := (hA hx).V
      obtain ⟨o2, v2⟩ := (hA hy).V
      split at hcb
      · simp only [Option.some.injEq] at hcb; subst hcb
        refine eff_pv h rfl he fun r hr => ?_
        simp only [List.map_cons, List.map_nil] at hr
        generalize ar.raw s = s1 at hr v1
        generalize br.raw s = s2 at hr v2
        cases s1 <;> cases s2 <;> simp only [pv, Option.some.injEq, reduceCtorEq] at hr
        subst hr
        exact pv_mm (mx := true) ho v1 v2
      · cases hcb
    · rename_i t u hts
      obtain ⟨x, y, ar, br, rfl, rfl, hx, hy, rfl⟩ := two t u hts
      have fin : ∀ {e : TypeId} {i : TypeInfo} {z : Value} {zs : List SV}, P.underlying t = some (.slice e) → P.info? e = some i → i.zero = some z → zeroL P e = some zs → i.size = zs.length → 0 < i.size → c' = .app i.size i.bytes zs →
          ((∃ e', P.underlying u = some (.slice e')) ∨ P.underlying u = some .string) → EffOk P g0 w0 (S.put { env := wback [ar, br] s.env wb, st := st' } o.dst r) a w o := by
        rintro e i z zs ht hi hz hzs hs h0 rfl hu
        have hzc := (zero_ok (g := g) (w := w) hi hz hzs).1
        have hap : appV i.size i.bytes (ar.raw s) (br.raw s) s.st = some (r, wb, st') := he
        exact eff_app h ho ht hi hz rfl (by rw [hzc, hs]) h0 (hA hx) (hA hy) hdd (fun t' e e' => hd t' (by simp [e]) (by rw [hdd, e'])) hu hap
      split at hcb
      · rename_i e e' ht hu
        simp only [Option.bind_eq_bind, Option.bind_eq_some_iff] at hcb
        obtain ⟨i, hi, z, hz, zs, hzs, hcb⟩ := hcb
        split at hcb
        · rename_i hs
          simp only [Option.some.injEq] at hcb
          exact fin ht hi hz hzs hs.1 hs.2 hcb.symm (.inl ⟨e', hu⟩)
        · cases hcb
      · rename_i e ht hu
        simp only [Option.bind_eq_bind, Option.bind_eq_some_iff] at hcb
        obtain ⟨i, hi, z, hz, zs, hzs, hcb⟩ := hcb
        split at hcb
        · rename_i hs
          simp only [Option.some.injEq] at hcb
          exact fin ht hi hz hzs hs.1 hs.2 hcb.symm (.inr hu)
        · cases hcb
      · cases hcb
    · cases hcb

end
end Go.Sh
