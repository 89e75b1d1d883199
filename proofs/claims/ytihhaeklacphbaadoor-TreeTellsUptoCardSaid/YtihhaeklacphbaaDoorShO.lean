/-
  The shadow machine, part O: stores; slices of slices.
-/
import Derived.Test.YtihhaeklacphbaaDoorShN
set_option linter.unusedSimpArgs false
set_option linter.unusedVariables false
namespace Go.Sh

section
variable {P : Program} {g0 : Gh} {w0 : World} {g : Gh} {w : World} {s : S} {a : Act} {o : Oper}

theorem V.ptr_inv {ow : Option Owner} {v : Value} {id off : Nat} (h : V g w ow v (.ptr id off)) : ∃ b, v = .pointer (some ⟨b, off, none⟩) ∧ g.ρ[id]? = some b := by
  cases h with
  | ptr _ _ _ b h => exact ⟨b, rfl, h⟩

/-- A store of a value that nobody owns, once it is published. -/
theorem store_plain (h : Rel g0 w0 g s a w) {t : TypeId} {x y : Operand} {n id off : Nat} {l : List SV} {sv : SV} {ow : Option Owner} (ho : o.op = .store t x y) (hn : sz P t = some n) (hx : V g w ow (a.eval x) (.ptr id off)) (hl : s.st[id]? = some (.cells l))
    (hv : V g w none (a.eval y) sv) (hc : (cellsV sv).length = n ∧ off + n ≤ l.length ∧ (cellsV sv).all isCell) : EffOk P g0 w0 (S.put { s with st := setOb s.st id (wrCells l off (cellsV sv)) } o.dst .undef) a w o := by
  obtain ⟨b, hb, hρ⟩ := hx.ptr_inv
  have hC := cells_ok hv hc.2.2
  obtain ⟨h1, h2, hR⟩ := h.write (off := off) hρ hl hC (by omega)
  have hr := run_storeAt (P := P) hn (by rw [hC.1]; exact hc.1) h1 h2 (fun u hu => by
    obtain ⟨j, hj, rfl⟩ := List.getElem_of_mem hu
    have hj' : j < (a.eval y).cells.size := by simpa using hj
    have := (hC.2 j hj' (by have := hC.1; omega)).1
    simpa using this)
  refine ⟨Go.undef, _, g, .inr ⟨?_, rfl⟩, hR.put fun _ _ => .undef _ _⟩
  simp only [execOp, ho, hb, Sem.run_bind, hr]
  rfl

/-- A slice is taken out of an object's cell, to be appended to. -/
theorem eff_loadG (h : Rel g0 w0 g s a w) {t e : TypeId} {x : Operand} {ax : Arg} (ho : o.op = .load t x) (ht : P.underlying t = some (.slice e)) (hn : sz P t = some 1) (hax : AOk g w s a x ax) {r : SV} {wb : List (Nat × SV)} {st' : List Ob}
    (he : ev s.st .loadG [ax.raw s] = some (r, wb, st')) : EffOk P g0 w0 (S.put { env := wback [ax] s.env wb, st := st' } o.dst r) a w o := by
  obtain ⟨ox, hvx⟩ := hax.V
  have hna : isAgg P t = false := by unfold isAgg; rw [ht]
  generalize ax.raw s = sx at he hvx
  cases sx <;> first | (simp [ev, pv] at he; done) | skip
  · rename_i id off
    simp only [ev] at he
    split at he
    · rename_i l hl
      simp only [Option.map_eq_some_iff] at he
      obtain ⟨sv, hsv, he⟩ := he
      obtain ⟨hlt, rfl⟩ := List.getElem?_eq_some_iff.1 hsv
      obtain ⟨b, hb, hρ⟩ := hvx.ptr_inv
      obtain ⟨cur, E, lo0, hi0, k1, k2, k3⟩ := h.inv.cells id b l hρ hl
      have hlc : off < cur.size := by omega
      obtain ⟨k4, k5⟩ := k3 off hlc hlt
      have hrun : (execOp a.eval o).run P w = .ok (.value cur[off]) w := by
        have hcell : w.cell? ⟨b, off, none⟩ = some cur[off] := by rw [cell_at k1]; simp [hlc]
        simp [execOp, ho, hb, Instr.loadAt, Instr.sureAddr, loadVar, run_isAgg ht, hna, hcell]
      split at he
      · rename_i hf
        simp only [Prod.mk.injEq] at he
        obtain ⟨rfl, rfl, rfl⟩ := he
        let d := o.dst.getD 0
        let φ := mv (.cell id off) (.slot d)
        have hre : ∀ r', r' ≠ .cell id off → ∀ rv sv, V g w (some ⟨r', []⟩) rv sv → V (g.re φ) w (some ⟨r', []⟩) rv sv := by
          intro r' hr rv sv hv
          refine hv.relabel_same _ ?_
          intro q hq p
          cases hq
          simp only [φ, mv]
          rw [if_neg hr]
        have hnone : ∀ rv sv, V g w none rv sv → V (g.re φ) w none rv sv := fun rv sv hv => hv.relabel_same _ (by intro q hq; cases hq)
        refine ⟨cur[off], w, g.re φ, .inl hrun, Rel.put (s := { env := s.env, st := setOb s.st id (l.set off (Sh.ro l[off])) }) ⟨h.fr.trans (Gh.mv_fr g _ (by simp)), ?_, ?_, h.defers⟩ fun t' ht' => ?_⟩
        · refine ⟨by simp [setOb]; exact h.inv.len, fun id' b' hi => ?_, fun id' b' l' hi hl' => ?_, fun id' b' l' hi hl' => ?_⟩
          · obtain ⟨q1, q2, q3⟩ := h.inv.obj id' b' hi
            exact ⟨q1, q2, by simp [Gh.re, q3, φ, mv]⟩
          · simp only [setOb] at hl'
            by_cases hid : id' = id
            · subst hid
              have hidlt := (List.getElem?_eq_some_iff.1 hl).1
              rw [List.getElem?_set_self hidlt] at hl'
              simp only [Option.some.injEq, Ob.cells.injEq] at hl'
              subst hl'
              have hi2 : g.ρ[id']? = some b' := hi
              have hbb : b' = b := by rw [hρ] at hi2; cases hi2; rfl
              subst hbb
              refine ⟨cur, E, lo0, hi0, k1, by simpa using k2, fun j hj hj' => ?_⟩
              obtain ⟨q4, q5⟩ := k3 j hj (by simpa using hj')
              refine ⟨q4, ?_⟩
              rw [List.getElem_set]
              split
              · rename_i e
                subst e
                exact (hnone _ _ (q5.ro none)).free rfl _
              · rename_i e
                exact hre _ (by simp; exact fun e' => e e'.symm) _ _ q5
            · rw [List.getElem?_set_ne (fun e => hid e.symm)] at hl'
              obtain ⟨cur, E, lo0, hi0, k1, k2, k3⟩ := h.inv.cells id' b' l' hi hl'
              exact ⟨cur, E, lo0, hi0, k1, k2, fun j hj hj' => ⟨(k3 j hj hj').1, hre _ (by simp [hid]) _ _ (k3 j hj hj').2⟩⟩
          · simp only [setOb] at hl'
            have hidlt := (List.getElem?_eq_some_iff.1 hl).1
            by_cases hid : id' = id
            · subst hid
              rw [List.getElem?_set_self hidlt] at hl'
              cases hl'
            · rw [List.getElem?_set_ne (fun e => hid e.symm)] at hl'
              obtain ⟨es, clock, k1, k2, k3⟩ := h.inv.map id' b' l' hi hl'
              exact ⟨es, clock, k1, k2, fun j hj hj' => ⟨hnone _ _ (k3 j hj hj').1, hnone _ _ (k3 j hj hj').2⟩⟩
        · exact ⟨h.env.size, fun j hj hj' => hre _ (by simp) _ _ (h.env.val j hj hj')⟩
        · have hd : d = t' := by simp [d, ht']
          rw [← hd]
          refine k5.relabel _ _ ?_
          intro q hq
          cases hq
          exact ⟨_, rfl, fun p => by simp [φ, mv]⟩
      · simp only [Prod.mk.injEq] at he
        obtain ⟨rfl, rfl, rfl⟩ := he
        exact ⟨cur[off], w, g, .inl hrun, h.put fun _ _ => k5.ro _⟩
    · cases he
  · rename_i xs p
    simp only [ev, Option.map_eq_some_iff, Prod.mk.injEq] at he
    obtain ⟨v, hv, rfl, rfl, rfl⟩ := he
    have hp : pv s.st (.load 1 (isAgg P t)) [.elv xs p] = some (Sh.ro v) := by
      rw [hna]
      show Option.map Sh.ro (partV 1 false xs p) = _
      unfold partV
      rw [if_neg (by simp), hv]; rfl
    exact EffOk.pure h (pv_load h.inv ho ht hn hvx hp)

theorem store_give (h : Rel g0 w0 g s a w) {t : TypeId} {x y : Operand} {ts id off : Nat} {l : List SV} {ox : Option Owner} (ho : o.op = .store t x y) (hn : sz P t = some 1) (hay : AOk g w s a y (.slot ts)) (hvx : V g w ox (a.eval x) (.ptr id off)) (hl : s.st[id]? = some (.cells l)) (hlt : off < l.length) (hf : flg (s.get ts) = true) :
    EffOk P g0 w0 (S.put { env := s.env.set ts (Sh.ro (s.get ts)), st := setOb s.st id (l.set off (s.get ts)) } o.dst .undef) a w o := by
  obtain ⟨b, hb, hρ⟩ := hvx.ptr_inv
  -- the cell is written with nothing known, then it takes over
  have hne : s.get ts ≠ .undef := by intro e; rw [e] at hf; simp [flg] at hf
  obtain ⟨hltS, hg⟩ := get_lt (t := ts) rfl hne
  have hlt' : ts < a.tmps.size := by rw [h.env.size]; exact hltS
  have hev : a.eval (.tmp ts) = a.tmps[ts] := by simp [Act.eval, hlt']
  have hvt := hay.val ts rfl
  obtain ⟨ys, m, es, hfl⟩ := flg_inv hf
  have hone : (a.eval y).oneCell' = true ∧ (a.eval y).cells = #[a.eval y] := by
    refine isCell_one hvt ?_
    rcases hfl with e | e <;> rw [e] <;> rfl
  have hC : Cs g w (a.eval y).cells [SV.undef] := by
    rw [hone.2]
    refine ⟨rfl, fun i hi hi' => ?_⟩
    simp at hi
    subst hi
    exact ⟨hone.1, .undef _ _⟩
  obtain ⟨h1, h2, hR⟩ := h.write (off := off) hρ hl hC (by simp; omega)
  have hr := run_storeAt (P := P) hn (by rw [hone.2]; rfl) h1 h2 (fun u hu => by rw [hone.2] at hu; simp at hu; subst hu; exact hone.1)
  let φ := mv (.slot ts) (.cell id off)
  have e2 : (a.eval y).cells.toList = [a.eval y] := by rw [hone.2]
  rw [e2] at hR hr h1
  refine ⟨Go.undef, w.setCells b off [a.eval y], g.re φ, .inr ⟨?_, rfl⟩, ?_⟩
  · simp only [execOp, ho, hb, Sem.run_bind, hr]
    rfl
  · have hu := hR
    simp only [wrCells] at hu
    have hre : ∀ r', r' ≠ .slot ts → ∀ rv sv, V g (w.setCells b off [a.eval y]) (some ⟨r', []⟩) rv sv → V (g.re φ) (w.setCells b off [a.eval y]) (some ⟨r', []⟩) rv sv := by
      intro r' hr rv sv hv
      refine hv.relabel_same _ ?_
      intro q hq p
      cases hq
      simp only [φ, mv]
      rw [if_neg hr]
    have hnone : ∀ rv sv, V g (w.setCells b off [a.eval y]) none rv sv → V (g.re φ) (w.setCells b off [a.eval y]) none rv sv := fun rv sv hv => hv.relabel_same _ (by intro q hq; cases hq)
    have hvt2 := hu.env.val ts hlt' hltS
    rw [hg] at hvt2
    refine Rel.put (s := { env := s.env.set ts (ro (s.get ts)), st := setOb s.st id (l.set off (s.get ts)) }) ⟨hu.fr.trans (Gh.mv_fr g _ (by simp)), ?_, ?_, hu.defers⟩ fun _ _ => .undef _ _
    · refine ⟨by simp [setOb]; exact h.inv.len, fun id' b' hi => ?_, fun id' b' l' hi hl' => ?_, fun id' b' l' hi hl' => ?_⟩
      · obtain ⟨k1, k2, k3⟩ := hu.inv.obj id' b' hi
        exact ⟨k1, k2, by simp [Gh.re, k3, φ, mv]⟩
      · simp only [setOb] at hl'
        by_cases hid : id' = id
        · subst hid
          have hidlt := (List.getElem?_eq_some_iff.1 hl).1
          rw [List.getElem?_set_self hidlt] at hl'
          simp only [Option.some.injEq, Ob.cells.injEq] at hl'
          subst hl'
          have hi2 : g.ρ[id']? = some b' := hi
          have hbb : b' = b := by rw [hρ] at hi2; cases hi2; rfl
          subst hbb
          obtain ⟨cur, E, lo0, hi0, k1, k2, k3⟩ := hu.inv.cells id' b' (l.set off .undef) hi2 (by simp [setOb, hidlt])
          refine ⟨cur, E, lo0, hi0, k1, by simpa using k2, fun j hj hj' => ?_⟩
          have k4 := k3 j hj (by simpa using hj')
          refine ⟨k4.1, ?_⟩
          rw [List.getElem_set]
          split
          · rename_i e
            subst e
            have hcell : (w.setCells b' off [a.eval y]).cell? ⟨b', off + 0, none⟩ = some (a.eval y) := World.cell?_setCells_in b' [a.eval y] off w (by simpa using h1) 0 (by simp)
            rw [cell_at k1] at hcell
            simp only [Nat.add_zero, Array.getElem?_eq_getElem hj, Option.some.injEq] at hcell
            rw [hcell]
            have hvt3 := hvt2
            rw [← hev, ← hay.eval ts rfl] at hvt3
            refine hvt3.relabel _ _ ?_
            intro q hq
            cases hq
            exact ⟨_, rfl, fun p => by simp [φ, mv]⟩
          · rename_i e
            refine hre _ (by simp) _ _ ?_
            have := k4.2
            rw [List.getElem_set_ne e] at this
            exact this
        · rw [List.getElem?_set_ne (fun e => hid e.symm)] at hl'
          obtain ⟨cur, E, lo0, hi0, k1, k2, k3⟩ := hu.inv.cells id' b' l' hi (by simp only [setOb]; rw [List.getElem?_set_ne (fun e => hid e.symm)]; exact hl')
          exact ⟨cur, E, lo0, hi0, k1, k2, fun j hj hj' => ⟨(k3 j hj hj').1, hre _ (by simp) _ _ (k3 j hj hj').2⟩⟩
      · simp only [setOb] at hl'
        have hidlt := (List.getElem?_eq_some_iff.1 hl).1
        by_cases hid : id' = id
        · subst hid
          rw [List.getElem?_set_self hidlt] at hl'
          cases hl'
        · rw [List.getElem?_set_ne (fun e => hid e.symm)] at hl'
          obtain ⟨es, clock, k1, k2, k3⟩ := hu.inv.map id' b' l' hi (by simp only [setOb]; rw [List.getElem?_set_ne (fun e => hid e.symm)]; exact hl')
          exact ⟨es, clock, k1, k2, fun j hj hj' => ⟨hnone _ _ (k3 j hj hj').1, hnone _ _ (k3 j hj hj').2⟩⟩
    · refine ⟨by simpa using hu.env.size, fun j hj hj' => ?_⟩
      simp only
      rw [List.getElem_set]
      split
      · rename_i e
        subst e
        exact (hnone _ _ (hvt2.ro none)).free rfl _
      · rename_i e
        refine hre _ ?_ _ _ (hu.env.val j hj (by simpa using hj'))
        simp only [ne_eq, Root.slot.injEq]
        exact fun e' => e e'.symm

theorem eff_store (h : Rel g0 w0 g s a w) {t : TypeId} {x y : Operand} {n : Nat} {give : Bool} {ax ay : Arg} (ho : o.op = .store t x y) (hn : sz P t = some n) (hax : AOk g w s a x ax) (hay : AOk g w s a y ay) {r : SV} {wb : List (Nat × SV)} {st' : List Ob}
    (he : ev s.st (.store n give) [ax.raw s, ay.raw s] = some (r, wb, st')) : EffOk P g0 w0 (S.put { env := wback [ax, ay] s.env wb, st := st' } o.dst r) a w o := by
  obtain ⟨id, off, hp⟩ : ∃ id off, ax.raw s = .ptr id off := by
    cases hv : ax.raw s <;> cases give <;> simp [ev, pv, hv] at he ⊢
  rw [hp] at he
  obtain ⟨ox, hvx⟩ := hax.V
  rw [hp] at hvx
  obtain ⟨oy, hvy⟩ := hay.V
  cases give with
  | false =>
    simp only [ev] at he
    split at he
    · rename_i l hl
      split at he
      · rename_i hc
        simp only [Option.some.injEq, Prod.mk.injEq] at he
        obtain ⟨rfl, rfl, rfl⟩ := he
        obtain ⟨g1, hR, hV⟩ := h.gots (vs := [ax, ay]) (xs := [x, y]) rfl (fun i hi hi' => by
          simp at hi
          rcases i with _ | _ | i
          · exact hax
          · exact hay
          · omega)
        have hv0 := hV 1 (by simp) (by simp)
        simp only [List.getElem_cons_succ, List.getElem_cons_zero] at hv0
        have e1 : pubs ([ax, ay].map (Arg.raw s)) = if exc (ay.raw s) then [(1, Sh.pub (ay.raw s))] else [] := by
          simp only [pubs, List.map_cons, List.map_nil, pubsFrom, hp, exc, Bool.false_eq_true, if_false]
        rw [e1] at hR
        have hx' := hR.env
        have hvx' : ∃ ow, V g1 w ow (a.eval x) (.ptr id off) := by
          have := hV 0 (by simp) (by simp)
          simp only [List.getElem_cons_zero, hp] at this
          exact ⟨none, this⟩
        obtain ⟨ow, hvx'⟩ := hvx'
        exact store_plain hR ho hn hvx' hl hv0 hc
      · cases he
    · cases he
  | true =>
    simp only [ev] at he
    split at he
    · rename_i l hl
      split at he
      · rename_i hf
        split at he
        · rename_i hc
          simp only [Option.some.injEq, Prod.mk.injEq] at he
          obtain ⟨rfl, rfl, rfl⟩ := he
          obtain ⟨ts, rfl⟩ := hay.flg_slot hf
          simp only [Arg.raw] at hf hvy ⊢
          simp only [wback, List.getElem?_cons_succ, List.getElem?_cons_zero]
          obtain ⟨rfl, hlt⟩ := hc
          by_cases hex : exc (s.get ts) = true
          · obtain ⟨ys, m, es, hv⟩ := exc_inv hex
            obtain ⟨g1, hR⟩ := h.pub ts hv
            have hlt2 := (get_lt hv (by simp)).1
            have hgs : S.get { s with env := s.env.set ts (.sl ys m (.own es)) } ts = .sl ys m (.own es) := by simp [S.get, hlt2]
            obtain ⟨ow, hvx'⟩ : ∃ ow, V g1 w ow (a.eval x) (.ptr id off) := by
              obtain ⟨ow, hv2⟩ := (hax.next hR.env).V
              refine ⟨ow, ?_⟩
              have e : ax.raw { s with env := s.env.set ts (.sl ys m (.own es)) } = .ptr id off := by
                rw [← hp]
                cases ax with
                | lit v => rfl
                | slot t' =>
                  have hne : ts ≠ t' := by
                    rintro rfl
                    change s.get ts = _ at hp
                    rw [hv] at hp
                    cases hp
                  show S.get _ t' = s.get t'
                  simp [S.get, List.getElem?_set_ne hne]
              rw [e] at hv2
              exact hv2
            have := store_give hR ho hn (hay.next hR.env) hvx' hl hlt (by rw [hgs]; rfl)
            rw [hgs] at this
            simp only [List.set_set] at this
            rw [hv]
            exact this
          · have hpb : Sh.pub (s.get ts) = s.get ts := by
              obtain ⟨xs, n, es, hv | hv⟩ := flg_inv hf
              · rw [hv]; rfl
              · rw [hv] at hex; exact absurd rfl hex
            rw [hpb]
            exact store_give h ho hn hay hvx hl hlt hf
        · cases he
      · rename_i hf
        split at he
        · rename_i hc
          simp only [Option.some.injEq, Prod.mk.injEq] at he
          obtain ⟨rfl, rfl, rfl⟩ := he
          exact store_plain h ho hn hvx hl (hvy.ro none) hc
        · cases he
    · cases he


/-- A slice into an object's cell; one that nobody else has becomes an object's. -/
theorem eff_storeO (h : Rel g0 w0 g s a w) {t : TypeId} {x y : Operand} {ax ay : Arg} (ho : o.op = .store t x y) (hn : sz P t = some 1) (hax : AOk g w s a x ax) (hay : AOk g w s a y ay) {r : SV} {wb : List (Nat × SV)} {st' : List Ob}
    (he : ev s.st .storeO [ax.raw s, ay.raw s] = some (r, wb, st')) : EffOk P g0 w0 (S.put { env := wback [ax, ay] s.env wb, st := st' } o.dst r) a w o := by
  by_cases hex : exc (ay.raw s) = true
  · obtain ⟨ty, rfl⟩ := hay.flg_slot (exc_flg hex)
    obtain ⟨xs, n, es, hv⟩ := exc_inv hex
    obtain ⟨id, off, hp⟩ : ∃ id off, ax.raw s = .ptr id off := by
      rw [hv] at he
      cases hv : ax.raw s <;> simp [ev, pv, hv] at he ⊢
    rw [hv, hp] at he
    simp only [ev] at he
    split at he
    · rename_i l hl
      split at he
      · rename_i hlt
        simp only [Option.some.injEq, Prod.mk.injEq] at he
        obtain ⟨rfl, rfl, rfl⟩ := he
        simp only [Arg.raw] at hv
        obtain ⟨g', b, cap, hev, hle, hρ, hR⟩ := h.objs hv
        obtain ⟨tx, rfl⟩ : ∃ tx, ax = .slot tx := by
          cases ax with
          | slot tx => exact ⟨tx, rfl⟩
          | lit v =>
            simp only [Arg.raw] at hp
            subst hp
            have := hax.lit _ rfl { g with ρ := [] } w none
            obtain ⟨_, _, h2⟩ := V.ptr_inv this
            simp at h2
        simp only [Arg.raw] at hp
        have hne : ty ≠ tx := by rintro rfl; rw [hp] at hv; cases hv
        have hx' : V g' w (slotO tx) (a.eval x) (.ptr id off) := by
          have := hR.env.get (s := { env := s.env.set ty .undef, st := s.st ++ [.cells xs] }) tx
          have e : S.get { env := s.env.set ty .undef, st := s.st ++ [.cells xs] } tx = s.get tx := by
            simp only [S.get, List.getD_eq_getElem?_getD]
            rw [List.getElem?_set_ne hne]
          rw [e, hp] at this
          rw [hax.eval tx rfl]
          exact this
        have hl' : (s.st ++ [Ob.cells xs])[id]? = some (.cells l) := by
          rw [List.getElem?_append_left (List.getElem?_eq_some_iff.1 hl).1]; exact hl
        have hvy : V g' w none (a.eval y) (.slo s.st.length 0 n) := by
          rw [hay.eval ty rfl, hev]
          exact .slo _ _ _ _ _ _ hle hρ
        have := store_plain hR ho hn hx' hl' hvy ⟨rfl, by omega, rfl⟩
        simpa [wback, wrCells, cellsV] using this
      · cases he
    · cases he
  · refine eff_store (give := true) h ho hn hax hay ?_
    rw [← he]
    generalize ax.raw s = u at *
    generalize ay.raw s = v at *
    cases u <;> first | (simp [ev, pv] at he; done) | skip
    rename_i id off
    have hflg : ¬ flg v = true := by
      intro hf
      obtain ⟨xs, n, es, rfl | rfl⟩ := flg_inv hf
      · simp [ev, flg] at he
        split at he <;> simp at he
      · exact hex rfl
    have e1 : ev s.st (.store 1 true) [.ptr id off, v] = match s.st[id]? with
        | some (.cells l) => if flg v then (if 1 = 1 ∧ off < l.length then some (.undef, [(1, Sh.ro (Sh.pub v))], setOb s.st id (l.set off (Sh.pub v))) else none)
          else if (cellsV (Sh.ro v)).length = 1 ∧ off + 1 ≤ l.length ∧ (cellsV (Sh.ro v)).all isCell then some (.undef, [], setOb s.st id (wrCells l off (cellsV (Sh.ro v)))) else none
        | _ => none := rfl
    have e2 : ev s.st .storeO [.ptr id off, v] = match s.st[id]? with
        | some (.cells l) => if flg v then none else if (cellsV (Sh.ro v)).length = 1 ∧ off + 1 ≤ l.length ∧ (cellsV (Sh.ro v)).all isCell then some (.undef, [], setOb s.st id (wrCells l off (cellsV (Sh.ro v)))) else none
        | _ => none := by
      cases v <;> first | rfl | skip
      rename_i f
      cases f <;> first | rfl | exact absurd rfl hflg
    rw [e1, e2]
    cases s.st[id]? with
    | none => rfl
    | some ob =>
      cases ob with
      | map _ => rfl
      | cells l => simp only [if_neg hflg]

theorem intOf_inv {ow : Option Owner} {v : Value} {sv : SV} {n : Int} (h : V g w ow v sv) (hn : intOfV sv = some n) : ∃ k, v = .int k n := by
  cases sv <;> simp [intOfV] at hn
  subst hn
  exact ⟨_, h.int_inv⟩

/-- The bounds of a slice expression, one after the other. -/
theorem run_bounds {bl : Bool} {len cap : Nat} {lo hi mx : Option Value} {l h m : Int} (hm : (mx = none ∧ h ≤ cap) ∨ ∃ k, mx = some (.int k m) ∧ h ≤ m ∧ m ≤ cap) (hh : (hi = none ∧ h = len ∧ mx = none) ∨ ∃ k, hi = some (.int k h)) (hl : (lo = none ∧ l = 0) ∨ ∃ k, lo = some (.int k l)) (h0 : 0 ≤ l) (h1 : l ≤ h) :
    (Instr.sliceBounds bl len cap lo hi mx).run P w = .ok (l.toNat, h.toNat, if mx.isSome then m.toNat else cap) w := by
  have hb : ∀ (k : IntKind) (i : Int) (y : Nat) (c : BoundsCode), 0 ≤ i → i ≤ y → (Instr.sliceBound (.int k i) y c).run P w = .ok i.toNat w := by
    intro k i y c h1 h2
    simp [Instr.sliceBound, asIntOf, h1, h2]
  rcases hm with ⟨rfl, hm⟩ | ⟨km, rfl, hm1, hm2⟩
  · rcases hh with ⟨rfl, rfl, _⟩ | ⟨kh, rfl⟩
    · rcases hl with ⟨rfl, rfl⟩ | ⟨kl, rfl⟩
      · simp [Instr.sliceBounds]
      · simp [Instr.sliceBounds, hb kl l len _ h0 (by omega)]
    · rcases hl with ⟨rfl, rfl⟩ | ⟨kl, rfl⟩
      · simp [Instr.sliceBounds, hb kh h cap _ (by omega) hm]
      · simp [Instr.sliceBounds, hb kh h cap _ (by omega) hm, hb kl l h.toNat _ h0 (by omega)]
  · rcases hh with ⟨_, _, hn⟩ | ⟨kh, rfl⟩
    · cases hn
    · rcases hl with ⟨rfl, rfl⟩ | ⟨kl, rfl⟩
      · simp [Instr.sliceBounds, hb km m cap _ (by omega) hm2, hb kh h m.toNat _ (by omega) (by omega)]
      · simp [Instr.sliceBounds, hb km m cap _ (by omega) hm2, hb kh h m.toNat _ (by omega) (by omega), hb kl l h.toNat _ h0 (by omega)]

theorem slc_core (h : Rel g0 w0 g s a w) {t e : TypeId} {x : Operand} {lo hi mx : Option Operand} {es : Nat} (ho : o.op = .slice t x lo hi mx) (ht : P.underlying t = some (.slice e)) (hn : sz P e = some es)
    {xs : List SV} {n : Nat} {fl : Fl} {ow : Option Owner} (hx : V g w ow (a.eval x) (.sl xs n fl)) (hfl : ∀ k, fl ≠ .excl k) (hxl : xs.length = n * es) {L H M : Int}
    (hm : (mx = none ∧ M = n) ∨ ∃ y k, mx = some y ∧ a.eval y = .int k M) (hh : (hi = none ∧ H = n ∧ mx = none) ∨ ∃ y k, hi = some y ∧ a.eval y = .int k H) (hl : (lo = none ∧ L = 0) ∨ ∃ y k, lo = some y ∧ a.eval y = .int k L)
    (h0 : 0 ≤ L) (h1 : L ≤ H) (h2 : H ≤ M) (h3 : M ≤ n) :
    EffOk P g0 w0 (s.put o.dst (.sl ((xs.take (H.toNat * es)).drop (L.toNat * es)) (H - L).toNat (if mx.isSome && M = H then .full else .ro))) a w o := by
  generalize hv : a.eval x = v at hx
  cases hx with
  | slz _ ad fl hf =>
    obtain rfl : L = 0 := by omega
    obtain rfl : H = 0 := by omega
    obtain rfl : M = 0 := by omega
    have hb := run_bounds (P := P) (w := w) (bl := true) (len := 0) (cap := 0) (lo := lo.map a.eval) (hi := hi.map a.eval) (mx := mx.map a.eval) (l := 0) (h := 0) (m := 0)
      (by
        rcases hm with ⟨rfl, _⟩ | ⟨y, k, rfl, hy⟩
        · exact .inl ⟨rfl, by omega⟩
        · exact .inr ⟨k, by simp [hy], by omega, by omega⟩)
      (by
        rcases hh with ⟨rfl, _, rfl⟩ | ⟨y, k, rfl, hy⟩
        · exact .inl ⟨rfl, rfl, rfl⟩
        · exact .inr ⟨k, by simp [hy]⟩)
      (by
        rcases hl with ⟨rfl, _⟩ | ⟨y, k, rfl, hy⟩
        · exact .inl ⟨rfl, rfl⟩
        · exact .inr ⟨k, by simp [hy]⟩) h0 h1
    have hrun : (execOp a.eval o).run P w = .ok (.value (.slice (some ad) 0 0)) w := by
      simp only [execOp, ho, Instr.sliceAt, Sem.run_bind, run_und ht, Result.andThen_ok, Instr.slice, hv, hb, run_size hn]
      have e : (if (mx.map a.eval).isSome = true then (0 : Int).toNat else 0) = 0 := by split <;> rfl
      simp [e]
      done
    refine ⟨_, w, g, .inl hrun, h.put fun d _ => ?_⟩
    have e : ((([] : List SV).take ((0 : Int).toNat * es)).drop ((0 : Int).toNat * es)) = [] := by simp
    rw [e]
    refine .slz _ _ _ ?_
    split <;> simp
  | sl _ b off _ cap _ _ f hlen hcell hone hxx hf =>
    have hmark : xs.length = 0 ∨ off + xs.length ≤ g.mark b := by
      cases fl with
      | ro => exact hf
      | full => exact hf.1
      | own k => exact .inr (by have := hf.2.1; have := hf.2.2.2.1; omega)
      | excl k => exact absurd rfl (hfl k)
    have hb := run_bounds (P := P) (w := w) (bl := true) (len := n) (cap := cap) (lo := lo.map a.eval) (hi := hi.map a.eval) (mx := mx.map a.eval) (l := L) (h := H) (m := M)
      (by
        rcases hm with ⟨rfl, rfl⟩ | ⟨y, k, rfl, hy⟩
        · exact .inl ⟨rfl, by omega⟩
        · exact .inr ⟨k, by simp [hy], by omega, by omega⟩)
      (by
        rcases hh with ⟨rfl, rfl, rfl⟩ | ⟨y, k, rfl, hy⟩
        · exact .inl ⟨rfl, rfl, rfl⟩
        · exact .inr ⟨k, by simp [hy]⟩)
      (by
        rcases hl with ⟨rfl, rfl⟩ | ⟨y, k, rfl, hy⟩
        · exact .inl ⟨rfl, rfl⟩
        · exact .inr ⟨k, by simp [hy]⟩) h0 h1
    let m : Nat := if (mx.map a.eval).isSome then M.toNat else cap
    have hmN : H.toNat ≤ m := by simp only [m]; split <;> omega
    have hrun : (execOp a.eval o).run P w = .ok (.value (.slice (if m = L.toNat then some ⟨b, off, none⟩ else some ⟨b, off + L.toNat * es, none⟩) (H.toNat - L.toNat) (m - L.toNat))) w := by
      simp only [execOp, ho, Instr.sliceAt, Sem.run_bind, run_und ht, Result.andThen_ok, Instr.slice, hv, hb, run_size hn]
      simp only [m, Option.map_some, addr_add]
      rfl
    have hxs : ((xs.take (H.toNat * es)).drop (L.toNat * es)).length = (H.toNat - L.toNat) * es := by
      rw [List.length_drop, List.length_take, hxl, Nat.sub_mul]
      have : H.toNat * es ≤ n * es := Nat.mul_le_mul_right _ (by omega)
      omega
    have hHn : H.toNat * es ≤ xs.length := by rw [hxl]; exact Nat.mul_le_mul_right _ (by omega)
    have hLH : L.toNat * es ≤ H.toNat * es := Nat.mul_le_mul_right _ (by omega)
    refine ⟨_, w, g, .inl hrun, h.put fun d _ => ?_⟩
    rw [show (H - L).toNat = H.toNat - L.toNat by omega]
    have hflag : ∀ off' : Nat, ((H.toNat - L.toNat) * es = 0 ∨ off' + (H.toNat - L.toNat) * es ≤ g.mark b) → Fok g w (slotO d) b off' (H.toNat - L.toNat) (m - L.toNat) ((H.toNat - L.toNat) * es) (if mx.isSome && M = H then .full else .ro) := by
      intro off' ho
      split
      · rename_i hc
        simp only [Bool.and_eq_true, decide_eq_true_eq] at hc
        refine ⟨ho, ?_⟩
        simp only [m, Option.isSome_map, hc.1, if_true]
        omega
      · exact ho
    split
    · rename_i hml
      have hz : H.toNat - L.toNat = 0 := by omega
      refine .sl _ b off _ _ _ _ (fun i => f (L.toNat * es + i)) (by omega) (fun i hi => ?_) (fun i hi => ?_) (fun i hi => ?_) ?_
      · rw [hxs, hz] at hi; simp at hi
      · rw [hxs, hz] at hi; simp at hi
      · rw [hxs, hz] at hi; simp at hi
      · rw [hxs]
        exact hflag off (.inl (by rw [hz, Nat.zero_mul]))
    · refine .sl _ b (off + L.toNat * es) _ _ _ _ (fun i => f (L.toNat * es + i)) (by omega) (fun i hi => ?_) (fun i hi => ?_) (fun i hi => ?_) ?_
      · rw [hxs, Nat.sub_mul] at hi
        rw [Nat.add_assoc]
        exact hcell _ (by omega)
      · rw [hxs, Nat.sub_mul] at hi
        exact hone _ (by omega)
      · have hi' := hi
        rw [hxs, Nat.sub_mul] at hi'
        simp only [List.getElem_drop, List.getElem_take]
        exact hxx _ (by omega)
      · rw [hxs]
        refine hflag _ ?_
        rw [Nat.sub_mul]
        rcases hmark with h5 | h5
        · left; omega
        · right; omega

end
end Go.Sh
