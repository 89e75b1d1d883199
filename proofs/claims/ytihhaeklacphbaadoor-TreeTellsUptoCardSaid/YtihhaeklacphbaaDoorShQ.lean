/-
  The shadow machine, part Q: every operation but a call.
-/
import Derived.Test.YtihhaeklacphbaaDoorShMp
set_option linter.unusedSimpArgs false
set_option linter.unusedVariables false
namespace Go.Sh

section
variable {P : Program} {g0 : Gh} {w0 : World} {g : Gh} {w : World} {s : S} {a : Act} {o : Oper} {σ : Sg} {res : List Nat} {c : Opc} {as : List Arg}

/-- An operation that is pure in the shadow. -/
theorem eff_pv (h : Rel g0 w0 g s a w) {as : List Arg} {r : SV} {wb : List (Nat × SV)} {st' : List Ob} (hev : ev s.st c (as.map (Arg.raw s)) = (pv s.st c (as.map (Arg.raw s))).map fun r => (r, [], s.st))
    (he : ev s.st c (as.map (Arg.raw s)) = some (r, wb, st')) (hp : ∀ r, pv s.st c (as.map (Arg.raw s)) = some r → PvOk P g w a o r) : EffOk P g0 w0 (S.put { env := wback as s.env wb, st := st' } o.dst r) a w o := by
  rw [hev] at he
  simp only [Option.map_eq_some_iff, Prod.mk.injEq] at he
  obtain ⟨r', hr, rfl, rfl, rfl⟩ := he
  exact EffOk.pure h (hp _ hr)

theorem op_1 (h : Rel g0 w0 g s a w) (hσ : Sub σ a) (hc : cOp P res σ o = some (c, as)) (hd : ∀ t, .slot t ∈ as → o.dst ≠ some t) {r : SV} {wb : List (Nat × SV)} {st' : List Ob} (he : ev s.st c (as.map (Arg.raw s)) = some (r, wb, st'))
    (hk : (∃ x, o.op = .move x) ∨ (∃ x, o.op = .assign x) ∨ (∃ x y z, o.op = .pick x y z) ∨ (∃ op t x, o.op = .unOp op t x) ∨ (∃ x, o.op = .nilCheck x) ∨ (∃ x i, o.op = .extract x i) ∨ (∃ t, o.op = .alloc t) ∨ (∃ e x, o.op = .box e x)) :
    EffOk P g0 w0 (S.put { env := wback as s.env wb, st := st' } o.dst r) a w o := by
  have hA : ∀ {x : Operand} {ar : Arg}, argOf σ x = some ar → AOk g w s a x ar := fun hx => AOk.of h.env hσ hx
  rcases hk with ⟨x, ho⟩ | ⟨x, ho⟩ | ⟨x, y, z, ho⟩ | ⟨op, t, x, ho⟩ | ⟨x, ho⟩ | ⟨x, i, ho⟩ | ⟨t, ho⟩ | ⟨e, x, ho⟩ <;>
    simp only [cOp, ho, Option.bind_eq_bind, Option.bind_eq_some_iff, Option.some.injEq, Prod.mk.injEq] at hc
  · obtain ⟨ar, hx, rfl, rfl⟩ := hc
    obtain ⟨ow, hv⟩ := (hA hx).V
    exact eff_pv h rfl he fun r hr => by simp only [List.map_cons, List.map_nil, pv, Option.some.injEq] at hr; subst hr; exact pv_move (.inl ho) hv
  · obtain ⟨ar, hx, rfl, rfl⟩ := hc
    split at he
    · exact eff_take h (.inr ho) (hA hx) he
    · split at he
      · exact eff_giveO h ho (hA hx) (fun t e => hd t (by simp [e])) he
      · split at he
        · exact eff_giveP h ho (hA hx) (fun t e => hd t (by simp [e])) he
        · exact eff_give h ho (hA hx) (fun t e => hd t (by simp [e])) he
  · obtain ⟨a1, h1, a2, h2, a3, h3, rfl, rfl⟩ := hc
    obtain ⟨o1, v1⟩ := (hA h1).V
    obtain ⟨o2, v2⟩ := (hA h2).V
    obtain ⟨o3, v3⟩ := (hA h3).V
    refine eff_pv h rfl he fun r hr => ?_
    simp only [List.map_cons, List.map_nil] at hr
    generalize a1.raw s = s1 at hr v1
    cases s1 <;> simp only [pv, Option.some.injEq, reduceCtorEq] at hr
    subst hr
    exact pv_pick ho v1 v2 v3
  · obtain ⟨ar, hx, rfl, rfl⟩ := hc
    obtain ⟨ow, hv⟩ := (hA hx).V
    exact eff_pv h rfl he fun r hr => pv_un ho hv hr
  · obtain ⟨ar, hx, rfl, rfl⟩ := hc
    obtain ⟨ow, hv⟩ := (hA hx).V
    exact eff_pv h rfl he fun r hr => pv_nilc ho hv hr
  · obtain ⟨ar, hx, rfl, rfl⟩ := hc
    exact eff_ext h ho (hA hx) (fun t e => hd t (by simp [e])) he
  · obtain ⟨zs, hz, rfl, rfl⟩ := hc
    exact eff_alloc h ho hz he
  · obtain ⟨ar, hx, rfl, rfl⟩ := hc
    exact eff_box h ho (hA hx) he

theorem pv_eq_case (h : Rel g0 w0 g s a w) {neq : Bool} {t u : TypeId} {x y : Operand} {ax ay : Arg} (ho : o.op = .binOp (if neq then .neq else .eql) t x y u) (hc : cEq P neq t = some c) (hax : AOk g w s a x ax) (hay : AOk g w s a y ay) {r : SV} {wb : List (Nat × SV)} {st' : List Ob} (he : ev s.st c ([ax, ay].map (Arg.raw s)) = some (r, wb, st')) : EffOk P g0 w0 (S.put { env := wback [ax, ay] s.env wb, st := st' } o.dst r) a w o := by
  obtain ⟨o1, v1⟩ := hax.V
  obtain ⟨o2, v2⟩ := hay.V
  unfold cEq at hc
  have nil : ∀ (k : NK), c = .eqN k neq → (match k with | .s => ∃ e, P.underlying t = some (.slice e) | .p => ∃ e, P.underlying t = some (.pointer e) | .f => ∃ p q r, P.underlying t = some (.func p q r) | .m => ∃ k e, P.underlying t = some (.map k e)) →
      EffOk P g0 w0 (S.put { env := wback [ax, ay] s.env wb, st := st' } o.dst r) a w o := by
    rintro k rfl ht
    refine eff_pv h rfl he fun r hr => ?_
    simp only [List.map_cons, List.map_nil, pv] at hr
    split at hr
    · rename_i b c hb hc
      split at hr
      · rename_i hbc
        simp only [Option.some.injEq] at hr
        subst hr
        exact pv_eqN ho ht v1 v2 hb hc hbc
      · cases hr
    · cases hr
  split at hc
  · rename_i ht
    simp only [Option.some.injEq] at hc
    subst hc
    refine eff_pv h rfl he fun r hr => ?_
    simp only [List.map_cons, List.map_nil] at hr
    generalize ax.raw s = s1 at hr v1
    generalize ay.raw s = s2 at hr v2
    cases s1 <;> cases s2 <;> simp only [pv, Option.some.injEq, reduceCtorEq] at hr
    subst hr
    exact pv_eqB ho ht v1 v2
  · simp only [Option.some.injEq] at hc
    subst hc
    exact eff_pv h rfl he fun r hr => pv_bin ho v1 v2 (by cases neq <;> exact hr)
  · simp only [Option.some.injEq] at hc
    subst hc
    exact eff_pv h rfl he fun r hr => pv_bin ho v1 v2 (by cases neq <;> exact hr)
  · rename_i e ht; simp only [Option.some.injEq] at hc; exact nil .s hc.symm ⟨e, ht⟩
  · rename_i e ht; simp only [Option.some.injEq] at hc; exact nil .p hc.symm ⟨e, ht⟩
  · rename_i p q r ht; simp only [Option.some.injEq] at hc; exact nil .f hc.symm ⟨p, q, r, ht⟩
  · rename_i k e ht; simp only [Option.some.injEq] at hc; exact nil .m hc.symm ⟨k, e, ht⟩
  · simp only [Option.map_eq_some_iff] at hc
    obtain ⟨ks, hks, rfl⟩ := hc
    exact eff_pv h rfl he fun r hr => pv_eqA ho hks v1 v2 hr
  · simp only [Option.map_eq_some_iff] at hc
    obtain ⟨ks, hks, rfl⟩ := hc
    exact eff_pv h rfl he fun r hr => pv_eqR ho hks v1 v2 hr
  · cases hc

theorem op_bin (h : Rel g0 w0 g s a w) (hσ : Sub σ a) (hc : cOp P res σ o = some (c, as)) {r : SV} {wb : List (Nat × SV)} {st' : List Ob} (he : ev s.st c (as.map (Arg.raw s)) = some (r, wb, st'))
    {op : BinOp} {t u : TypeId} {x y : Operand} (ho : o.op = .binOp op t x y u) : EffOk P g0 w0 (S.put { env := wback as s.env wb, st := st' } o.dst r) a w o := by
  have hA : ∀ {x : Operand} {ar : Arg}, argOf σ x = some ar → AOk g w s a x ar := fun hx => AOk.of h.env hσ hx
  simp only [cOp, ho] at hc
  split at hc <;> simp only [Option.bind_eq_bind, Option.bind_eq_some_iff, Option.some.injEq, Prod.mk.injEq] at hc
  · obtain ⟨c', hc', ax, h1, ay, h2, rfl, rfl⟩ := hc
    exact pv_eq_case h (neq := false) ho hc' (hA h1) (hA h2) he
  · obtain ⟨c', hc', ax, h1, ay, h2, rfl, rfl⟩ := hc
    exact pv_eq_case h (neq := true) ho hc' (hA h1) (hA h2) he
  · obtain ⟨c', rfl, ax, h1, ay, h2, rfl, rfl⟩ := hc
    obtain ⟨o1, v1⟩ := (hA h1).V
    obtain ⟨o2, v2⟩ := (hA h2).V
    exact eff_pv h rfl he fun r hr => pv_bin ho v1 v2 hr

theorem op_conv (h : Rel g0 w0 g s a w) (hσ : Sub σ a) (hc : cOp P res σ o = some (c, as)) {r : SV} {wb : List (Nat × SV)} {st' : List Ob} (he : ev s.st c (as.map (Arg.raw s)) = some (r, wb, st'))
    {src dst : TypeId} {x : Operand} (ho : o.op = .convert src dst x) : EffOk P g0 w0 (S.put { env := wback as s.env wb, st := st' } o.dst r) a w o := by
  have hA : ∀ {x : Operand} {ar : Arg}, argOf σ x = some ar → AOk g w s a x ar := fun hx => AOk.of h.env hσ hx
  simp only [cOp, ho] at hc
  split at hc
  · rename_i ds k hs hd
    simp only [Option.bind_eq_bind, Option.bind_eq_some_iff, Option.some.injEq, Prod.mk.injEq] at hc
    obtain ⟨c', rfl, ax, h1, rfl, rfl⟩ := hc
    obtain ⟨o1, v1⟩ := (hA h1).V
    refine eff_pv h rfl he fun r hr => ?_
    simp only [List.map_cons, List.map_nil] at hr
    generalize ax.raw s = s1 at hr v1
    cases s1 <;> simp only [pv, Option.some.injEq, reduceCtorEq] at hr
    subst hr
    exact pv_cvI ho ⟨ds, hs⟩ hd v1
  · rename_i hs' hd
    simp only [Option.bind_eq_bind, Option.bind_eq_some_iff, Option.some.injEq, Prod.mk.injEq] at hc
    obtain ⟨c', rfl, ax, h1, rfl, rfl⟩ := hc
    obtain ⟨o1, v1⟩ := (hA h1).V
    refine eff_pv h rfl he fun r hr => ?_
    simp only [List.map_cons, List.map_nil] at hr
    generalize ax.raw s = s1 at hr v1
    cases s1 <;> simp only [pv, Option.some.injEq, reduceCtorEq] at hr
    subst hr
    obtain ⟨t, ht, rfl⟩ := v1.str_inv
    exact ⟨.string t, by simp [execOp, ho, ht, convert, run_und hs', run_und hd], .str _ _⟩
  · rename_i e hs' hd
    split at hc
    · rename_i hu
      simp only [Option.bind_eq_bind, Option.bind_eq_some_iff, Option.some.injEq, Prod.mk.injEq] at hc
      obtain ⟨c', rfl, ax, h1, rfl, rfl⟩ := hc
      obtain ⟨o1, v1⟩ := (hA h1).V
      have hu' : P.underlying e = some (.int .u8) := by
        unfold isU8 at hu
        split at hu
        · assumption
        · cases hu
      exact eff_pv h rfl he fun r hr => pv_b2s ho hs' hu' hd h.inv v1 hr
    · simp at hc
  · rename_i e hs' hd
    split at hc
    · rename_i hu
      simp only [Option.bind_eq_bind, Option.bind_eq_some_iff, Option.some.injEq, Prod.mk.injEq] at hc
      obtain ⟨c', rfl, ax, h1, rfl, rfl⟩ := hc
      obtain ⟨o1, v1⟩ := (hA h1).V
      have hu' : P.underlying e = some (.int .u8) := by
        unfold isU8 at hu
        split at hu
        · assumption
        · cases hu
      simp only [List.map_cons, List.map_nil] at he
      generalize ax.raw s = s1 at he v1
      cases s1 <;> simp [ev, pv] at he
      obtain ⟨hl, rfl, rfl, rfl⟩ := he
      exact eff_s2b h ho hs' hd hu' v1 hl
    · simp at hc
  · simp at hc

theorem op_2 (h : Rel g0 w0 g s a w) (hσ : Sub σ a) (hc : cOp P res σ o = some (c, as)) {r : SV} {wb : List (Nat × SV)} {st' : List Ob} (he : ev s.st c (as.map (Arg.raw s)) = some (r, wb, st'))
    (hk : (∃ t x f, o.op = .fieldAddr t x f) ∨ (∃ t x f, o.op = .field t x f) ∨ (∃ t x i, o.op = .index t x i) ∨ (∃ t x i, o.op = .indexAddr t x i) ∨ (∃ t x, o.op = .load t x) ∨ (∃ t x y, o.op = .store t x y)) :
    EffOk P g0 w0 (S.put { env := wback as s.env wb, st := st' } o.dst r) a w o := by
  have hA : ∀ {x : Operand} {ar : Arg}, argOf σ x = some ar → AOk g w s a x ar := fun hx => AOk.of h.env hσ hx
  have hU : ∀ {t n}, sz P t = some n → ∃ d, P.underlying t = some d := fun hn => sz_und hn
  rcases hk with ⟨t, x, f, ho⟩ | ⟨t, x, f, ho⟩ | ⟨t, x, i, ho⟩ | ⟨t, x, i, ho⟩ | ⟨t, x, ho⟩ | ⟨t, x, y, ho⟩ <;>
    simp only [cOp, ho, Option.bind_eq_bind, Option.bind_eq_some_iff, Option.some.injEq, Prod.mk.injEq] at hc
  · obtain ⟨fd, hf, n, hn, hc⟩ := hc
    split at hc
    · cases hc
    · rename_i h0
      simp only [Option.bind_eq_some_iff, Option.some.injEq, Prod.mk.injEq] at hc
      obtain ⟨ar, hx, rfl, rfl⟩ := hc
      obtain ⟨ow, hv⟩ := (hA hx).V
      refine eff_pv h ?_ he fun r hr => pv_fld ho hf hn h0 hv hr
      cases ar.raw s <;> rfl
  · obtain ⟨fd, hf, n, hn, ar, hx, rfl, rfl⟩ := hc
    obtain ⟨ow, hv⟩ := (hA hx).V
    obtain ⟨d, hd⟩ := hU hn
    exact eff_pv h rfl he fun r hr => pv_fldV ho hf hn hd hv hr
  · split at hc
    · rename_i ht
      simp only [Option.bind_eq_some_iff, Option.some.injEq, Prod.mk.injEq] at hc
      obtain ⟨a1, h1, a2, h2, rfl, rfl⟩ := hc
      obtain ⟨o1, v1⟩ := (hA h1).V
      obtain ⟨o2, v2⟩ := (hA h2).V
      refine eff_pv h rfl he fun r hr => ?_
      simp only [List.map_cons, List.map_nil] at hr
      generalize a1.raw s = s1 at hr v1
      generalize a2.raw s = s2 at hr v2
      cases s1 <;> cases s2 <;> first | (simp only [pv, reduceCtorEq] at hr; done) | skip
      exact pv_idxS ho ht v1 v2 hr
    · rename_i len e ht
      simp only [Option.bind_eq_some_iff, Option.some.injEq, Prod.mk.injEq] at hc
      obtain ⟨n, hn, a1, h1, a2, h2, rfl, rfl⟩ := hc
      obtain ⟨o1, v1⟩ := (hA h1).V
      obtain ⟨o2, v2⟩ := (hA h2).V
      obtain ⟨d, hd⟩ := hU hn
      exact eff_pv h rfl he fun r hr => pv_idxV ho ht hn hd v1 v2 hr
    · cases hc
  · split at hc
    · rename_i len e ht
      simp only [Option.bind_eq_some_iff, Option.some.injEq, Prod.mk.injEq] at hc
      obtain ⟨n, hn, a1, h1, a2, h2, rfl, rfl⟩ := hc
      obtain ⟨o1, v1⟩ := (hA h1).V
      obtain ⟨o2, v2⟩ := (hA h2).V
      exact eff_pv h rfl he fun r hr => pv_idxP ho ht hn v1 v2 hr
    · rename_i e ht
      simp only [Option.bind_eq_some_iff, Option.some.injEq, Prod.mk.injEq] at hc
      obtain ⟨n, hn, a1, h1, a2, h2, rfl, rfl⟩ := hc
      obtain ⟨o1, v1⟩ := (hA h1).V
      obtain ⟨o2, v2⟩ := (hA h2).V
      exact eff_pv h rfl he fun r hr => pv_idxA ho ht hn v1 v2 hr
    · cases hc
  · obtain ⟨n, hn, hc⟩ := hc
    split at hc
    · rename_i hg
      simp only [Option.bind_eq_some_iff, Option.some.injEq, Prod.mk.injEq] at hc
      obtain ⟨ar, hx, rfl, rfl⟩ := hc
      simp only [Bool.and_eq_true] at hg
      have hs : ∃ e, P.underlying t = some (.slice e) := by
        have := hg.1.2
        unfold isSl at this
        split at this
        · rename_i e he; exact ⟨e, he⟩
        · cases this
      obtain ⟨e, hs⟩ := hs
      exact eff_loadG h ho hs (by rw [hn]; simpa using hg.2) (hA hx) he
    · simp only [Option.bind_eq_some_iff, Option.some.injEq, Prod.mk.injEq] at hc
      obtain ⟨ar, hx, rfl, rfl⟩ := hc
      obtain ⟨ow, hv⟩ := (hA hx).V
      obtain ⟨d, hd⟩ := hU hn
      exact eff_pv h rfl he fun r hr => pv_load h.inv ho hd hn hv hr
  · obtain ⟨n, hn, hc⟩ := hc
    split at hc
    · rename_i hg
      simp only [Option.bind_eq_some_iff, Option.some.injEq, Prod.mk.injEq] at hc
      obtain ⟨a1, h1, a2, h2, rfl, rfl⟩ := hc
      simp only [Bool.and_eq_true] at hg
      exact eff_storeO h ho (by rw [hn]; simpa using hg.1.2) (hA h1) (hA h2) he
    · simp only [Option.bind_eq_some_iff, Option.some.injEq, Prod.mk.injEq] at hc
      obtain ⟨a1, h1, a2, h2, rfl, rfl⟩ := hc
      exact eff_store h ho hn (hA h1) (hA h2) he

/-- Operations of maps. -/
theorem op_map (h : Rel g0 w0 g s a w) (hσ : Sub σ a) (hc : cOp P res σ o = some (c, as)) {r : SV} {wb : List (Nat × SV)} {st' : List Ob} (he : ev s.st c (as.map (Arg.raw s)) = some (r, wb, st'))
    (hk : (∃ t x, o.op = .makeMap t x) ∨ (∃ t x y z, o.op = .lookup t x y z) ∨ (∃ t x y z, o.op = .mapUpdate t x y z) ∨ (∃ t x y, o.op = .mapEntry t x y) ∨ (∃ t x y z, o.op = .entryStore t x y z)) :
    EffOk P g0 w0 (S.put { env := wback as s.env wb, st := st' } o.dst r) a w o := by
  have hA : ∀ {x : Operand} {ar : Arg}, argOf σ x = some ar → AOk g w s a x ar := fun hx => AOk.of h.env hσ hx
  rcases hk with ⟨t, x, ho⟩ | ⟨t, x, y, z, ho⟩ | ⟨t, x, y, z, ho⟩ | ⟨t, x, y, ho⟩ | ⟨t, x, y, z, ho⟩ <;> simp only [cOp, ho] at hc <;> split at hc
  · rename_i kt e ht
    simp only [Option.bind_eq_bind, Option.bind_eq_some_iff, Option.some.injEq, Prod.mk.injEq] at hc
    obtain ⟨rs, hrs, rfl, rfl⟩ := hc
    obtain ⟨hrl, hra⟩ := mapM_get hrs
    exact eff_mkM h ho ht hrl (fun i h1 h2 => hA (hra i h1 h2)) he
  · cases hc
  · rename_i kt e ht
    simp only [Option.bind_eq_bind, Option.bind_eq_some_iff, Option.some.injEq, Prod.mk.injEq] at hc
    obtain ⟨⟨ks, ak⟩, hks, zv, hz, a1, h1, a2, h2, rfl, rfl⟩ := hc
    obtain ⟨o1, v1⟩ := (hA h1).V
    obtain ⟨o2, v2⟩ := (hA h2).V
    exact eff_pv h rfl he fun r hr => pv_lkp h.inv ho ht hks hz v1 v2 hr
  · cases hc
  · rename_i kt e ht
    simp only [Option.bind_eq_bind, Option.bind_eq_some_iff, Option.some.injEq, Prod.mk.injEq] at hc
    obtain ⟨⟨ks, ak⟩, hks, a1, h1, a2, h2, a3, h3, rfl, rfl⟩ := hc
    exact eff_upd h ho ht hks (hA h1) (hA h2) (hA h3) he
  · cases hc
  · rename_i kt e ht
    simp only [Option.bind_eq_bind, Option.bind_eq_some_iff, Option.some.injEq, Prod.mk.injEq] at hc
    obtain ⟨⟨ks, ak⟩, hks, zv, hz, a1, h1, a2, h2, rfl, rfl⟩ := hc
    exact eff_ment h ho ht hks hz (hA h1) (hA h2) he
  · cases hc
  · rename_i kt e ht
    simp only [Option.bind_eq_bind, Option.bind_eq_some_iff, Option.some.injEq, Prod.mk.injEq] at hc
    obtain ⟨a1, h1, a2, h2, a3, h3, rfl, rfl⟩ := hc
    exact eff_mest h ho ht (hA h1) (hA h2) (hA h3) he
  · cases hc

end
end Go.Sh
