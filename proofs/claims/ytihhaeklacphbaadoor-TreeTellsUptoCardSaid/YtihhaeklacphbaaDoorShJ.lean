/-
  The shadow machine, part J: append, whole; what changes hands.
-/
import Derived.Test.YtihhaeklacphbaaDoorShI
set_option linter.unusedSimpArgs false
set_option linter.unusedVariables false
namespace Go.Sh

section
variable {P : Program} {g0 : Gh} {w0 : World} {g : Gh} {w : World} {s : S} {a : Act} {o : Oper}

/-- The operand and its argument agree. -/
structure AOk (g : Gh) (w : World) (s : S) (a : Act) (x : Operand) (ar : Arg) : Prop where
  eval : ∀ t, ar = .slot t → a.eval x = a.eval (.tmp t)
  val : ∀ t, ar = .slot t → V g w (slotO t) (a.eval x) (s.get t)
  lit : ∀ v, ar = .lit v → ∀ g w ow, V g w ow (a.eval x) v

theorem AOk.V {x : Operand} {ar : Arg} (h : AOk g w s a x ar) : ∃ ow, V g w ow (a.eval x) (ar.raw s) := by
  cases ar with
  | slot t => exact ⟨_, h.val t rfl⟩
  | lit v => exact ⟨none, h.lit v rfl _ _ _⟩

theorem AOk.of (he : EnvOk g w s.env a.tmps) {σ : Sg} (hσ : Sub σ a) {x : Operand} {ar : Arg} (h : argOf σ x = some ar) : AOk g w s a x ar := by
  cases x with
  | tmp t =>
    simp only [argOf, Option.some.injEq] at h
    subst h
    have key : a.eval (.tmp t) = a.eval (.tmp ((σ.lookup t).getD t)) := by
      cases hl : σ.lookup t with
      | none => rfl
      | some y => exact hσ t y (lookup_mem hl)
    refine ⟨fun t' e => ?_, fun t' e => ?_, fun v e => (by cases e)⟩
    · cases e; exact key
    · cases e; rw [key]; exact he.get _
  | const v =>
    simp only [argOf, Option.map_eq_some_iff] at h
    obtain ⟨sv, h1, rfl⟩ := h
    exact ⟨fun t' e => (by cases e), fun t' e => (by cases e), fun v' e g w ow => (by cases e; exact litOf_ok h1 g w ow)⟩
  | global g => simp [argOf] at h
  | func f =>
    simp only [argOf, Option.some.injEq] at h
    subst h
    exact ⟨fun t' e => (by cases e), fun t' e => (by cases e), fun v' e g w ow => (by cases e; exact .fn ow f #[] #[] [] [] rfl rfl (fun i h => by simp at h) (fun i h => by simp at h))⟩

theorem exec_append {x y : Operand} {t u : TypeId} (ho : o.op = .call { callee := .builtin .append, args := #[x, y], argTypes := #[t, u] }) : (execOp a.eval o).run P w = ((Builtin.append_ #[t, u] o.type #[a.eval x, a.eval y]).run P w).andThen fun v w' => .ok (.value v) w' := by
  simp [execOp, ho, resolve, invoke, builtin]

theorem size_zc (z : Array Value) (n : Nat) : (Builtin.zeroCells z n).size = n * z.size := by simp [Builtin.zeroCells]

/-- Appended to new memory. -/
theorem grow_new (h : Rel g0 w0 g s a w) {t u e : TypeId} {x y : Operand} {i : TypeInfo} {z : Value} {es d : Nat} (ho : o.op = .call { callee := .builtin .append, args := #[x, y], argTypes := #[t, u] }) (ht : P.underlying t = some (.slice e)) (hi : P.info? e = some i) (hz : i.zero = some z)
    (hsz : i.size = es) (hzs : z.cells.size = es) (hes : 0 < es) {base : Option Addr} {n cap m : Nat} (hx : a.eval x = .slice base n cap) {olds : List Value} (hol : olds.length = n * es) (hold : ∀ w' : World, w'.heap = w.heap → (Builtin.firstCells es n (.slice base n cap)).run P w' = .ok olds.toArray w')
    {xs ys : List SV} (hxl : xs.length = olds.length) (hxv : ∀ j (h : j < olds.length) (h' : j < xs.length), (olds[j]'h).oneCell' = true ∧ V g w none (olds[j]'h) (xs[j]'h'))
    {news : List Value} (hs : Src P es u (a.eval y) m news w) (hyl : news.length = ys.length) (hyv : ∀ j (h : j < news.length) (h' : j < ys.length), V g w none (news[j]'h) (ys[j]'h'))
    (hg : cap < n + m) (hb : (n + m) * i.bytes ≤ 140737488355328) (hm : n + m ≤ 4611686018427387904) (hd : o.dst = some d) : EffOk P g0 w0 (s.put (some d) (.sl (xs ++ ys) (n + m) (.excl es))) a w o := by
  subst hsz
  have hnews := hs.newsLen
  have hge := grownCap_ge w (n + m) cap e
  have hml : n + m ≤ maxLen := by simp only [maxLen]; omega
  have hcm : grownCap w (n + m) cap e ≤ maxLen := grownCap_le_maxLen w (n + m) cap e hml
  have hr := run_append_grow_src (P := P) w t u o.type e i z ht hi hz base n cap olds (hold _ rfl) (a.eval y) m news hs hg (by omega) (growslice_fits hg hb)
  let C : Array Value := (olds ++ news).toArray ++ Builtin.zeroCells z.cells (grownCap w (n + m) cap e - (n + m))
  have hCs : C.size = grownCap w (n + m) cap e * i.size := by
    simp only [C, Array.size_append, List.size_toArray, List.length_append, size_zc, hzs, hol, hnews, ← Nat.add_mul]
    congr 1; omega
  obtain ⟨g', hg'⟩ := h.new (dd := some d) (w' := w.drew.alloc (.cells C e)) (E := e) (lo := 0) (hi := 0) (C := C) (xs := xs ++ ys) (n := n + m) (cap := grownCap w (n + m) cap e) (es := i.size) rfl rfl rfl rfl
    (by rw [List.length_append, hxl, ← hyl, hol, hnews, Nat.add_mul]) (by omega) (by omega) (.inl (Nat.le_refl _)) hcm (fun j hj hj' => by
      simp only [List.length_append] at hj'
      have hj2 : j < (olds ++ news).length := by rw [List.length_append]; omega
      have e1 : C[j] = (olds ++ news)[j] := by simp only [C]; rw [Array.getElem_append_left (by simpa using hj2)]; simp
      rw [e1]
      by_cases hjx : j < olds.length
      · rw [List.getElem_append_left hjx, List.getElem_append_left (by omega)]
        exact hxv j hjx (by omega)
      · rw [List.getElem_append_right (by omega), List.getElem_append_right (by omega)]
        have hk : j - olds.length < news.length := by rw [List.length_append] at hj2; omega
        refine ⟨hs.one _ (List.getElem_mem hk), ?_⟩
        have := hyv (j - olds.length) hk (by omega)
        simpa only [hxl] using this)
  refine ⟨_, _, g', .inl ?_, by rw [hd]; exact hg'⟩
  rw [exec_append ho, hx, hr]
  rfl

/-- What a slot owns with nobody beside it, it may own with others. -/
theorem Rel.lower {d : Nat} {xs : List SV} {n es : Nat} (h : Rel g0 w0 g (s.put (some d) (.sl xs n (.excl es))) a w) : ∃ g', Rel g0 w0 g' (s.put (some d) (.sl xs n (.own es))) a w := by
  by_cases hd : d < s.env.length
  · obtain ⟨g', h'⟩ := h.pub d (xs := xs) (n := n) (es := es) (by simp [S.put, S.get, hd])
    refine ⟨g', ?_⟩
    simpa [S.put] using h'
  · refine ⟨g, ?_⟩
    simp only [S.put, List.set_eq_of_length_le (Nat.le_of_not_lt hd)] at h ⊢
    exact h

theorem first_of {es n cap b off : Nat} {xs : List SV} {f : Nat → Value} (hl : xs.length = n * es) (hcell : ∀ i, i < xs.length → w.cell? ⟨b, off + i, none⟩ = some (f i)) (w' : World) (hh : w'.heap = w.heap) :
    (Builtin.firstCells es n (.slice (some ⟨b, off, none⟩) n cap)).run P w' = .ok ((List.range xs.length).map f).toArray w' := by
  refine run_firstCells_some w' es n ⟨b, off, none⟩ n cap _ (by simp [hl]) (fun j v hj => ?_)
  rw [addr_add]
  rw [List.getElem?_map] at hj
  simp only [Option.map_eq_some_iff] at hj
  obtain ⟨i, hi, rfl⟩ := hj
  obtain ⟨h1, rfl⟩ := List.getElem?_eq_some_iff.1 hi
  simp at h1 ⊢
  have := hcell j h1
  unfold World.cell? at this ⊢
  rw [hh]
  exact this

theorem eff_app (h : Rel g0 w0 g s a w) {t u e : TypeId} {x y : Operand} {i : TypeInfo} {z : Value} {es d : Nat} (ho : o.op = .call { callee := .builtin .append, args := #[x, y], argTypes := #[t, u] }) (ht : P.underlying t = some (.slice e)) (hi : P.info? e = some i) (hz : i.zero = some z)
    (hsz : i.size = es) (hzs : z.cells.size = es) (hes : 0 < es) {ax ay : Arg} (hax : AOk g w s a x ax) (hay : AOk g w s a y ay) (hdd : o.dst = some d) (hd : ∀ t, ax = .slot t → t ≠ d)
    (hu : (∃ e', P.underlying u = some (.slice e')) ∨ P.underlying u = some .string)
    {r : SV} {wb : List (Nat × SV)} {st' : List Ob} (hap : appV es i.bytes (ax.raw s) (ay.raw s) s.st = some (r, wb, st')) : EffOk P g0 w0 (S.put { env := wback [ax, ay] s.env wb, st := st' } o.dst r) a w o := by
  rw [hdd]
  unfold appV at hap
  obtain ⟨⟨m, ys⟩, hsrc, hap⟩ := Option.bind_eq_some_iff.1 hap
  obtain ⟨oy, hvy⟩ := hay.V
  obtain ⟨news, hS, hnl, hnv⟩ := src_ok h.inv hvy hsrc hu
  obtain ⟨ox, hvx⟩ := hax.V
  simp only at hap
  split at hap
  · -- nil
    rename_i hraw
    rw [hraw] at hvx
    generalize hvx' : a.eval x = vx at hvx
    cases hvx
    split at hap
    · rename_i hb
      simp only [Option.some.injEq, Prod.mk.injEq] at hap
      obtain ⟨rfl, rfl, rfl⟩ := hap
      by_cases hm0 : m = 0
      · subst hm0
        rw [if_pos rfl]
        have hnn : news = [] := List.eq_nil_of_length_eq_zero (by rw [hS.newsLen, Nat.zero_mul])
        subst hnn
        refine ⟨.slice none 0 0, w, g, .inl ?_, by rw [hdd]; exact h.put fun t _ => .nilS _⟩
        have hk := hS.kind
        subst hsz
        rw [exec_append ho, hvx']
        rcases hk with ⟨e', hk⟩ | hk <;> simp [Builtin.append_, run_und ht, run_und hk, sizeOf, typeInfo, hi, hS.len, hS.cells]
      · rw [if_neg hm0]
        have := grow_new (P := P) h (d := d) ho ht hi hz hsz hzs hes (base := none) (n := 0) (cap := 0) (m := m) hvx' (olds := []) (by simp) (fun w' _ => run_firstCells_none w' es 0 0 0) (xs := []) rfl (fun j hj => by simp at hj) hS hnl hnv (by omega) (by simpa using hb.1) (by omega) hdd
        simpa [wback] using this
    · cases hap
  · -- a slice
    rename_i xs n fl hraw
    rw [hraw] at hvx
    have hvx0 := hvx
    generalize hvx' : a.eval x = vx at hvx
    cases hvx with
    | slz _ ad fl hf =>
      split at hap
      · rename_i hb
        obtain ⟨hxl, hb1, hb2⟩ := hb
        rcases hf with rfl | rfl
        · cases hap
        · simp only [Option.some.injEq, Prod.mk.injEq] at hap
          obtain ⟨rfl, rfl, rfl⟩ := hap
          by_cases hm0 : m = 0
          · subst hm0
            rw [if_pos rfl]
            have hnn : news = [] := List.eq_nil_of_length_eq_zero (by rw [hS.newsLen, Nat.zero_mul])
            subst hnn
            refine ⟨.slice (some ad) 0 0, w, g, .inl ?_, by rw [hdd]; exact h.put fun t _ => .slz _ _ _ (.inr rfl)⟩
            have hk := hS.kind
            subst hsz
            rw [exec_append ho, hvx']
            rcases hk with ⟨e', hk⟩ | hk <;> simp [Builtin.append_, run_und ht, run_und hk, sizeOf, typeInfo, hi, hS.len, hS.cells, storeCells]
          · rw [if_neg hm0]
            have := grow_new (P := P) h (d := d) ho ht hi hz hsz hzs hes (base := some ad) (n := 0) (cap := 0) (m := m) hvx' (olds := []) (by simp) (fun w' _ => run_firstCells_some w' es 0 ad 0 0 [] (by simp) (by intro j v hj; simp at hj)) (xs := []) rfl (fun j hj => by simp at hj) hS hnl hnv (by omega) (by simpa using hb1) (by omega) hdd
            simpa [wback] using this
      · cases hap
    | sl _ b off _ cap _ _ f hlen hcell hone hxx hf =>
      split at hap
      · rename_i hb
        obtain ⟨hxl, hb1, hb2⟩ := hb
        have hgrow : cap < n + m → EffOk P g0 w0 (s.put (some d) (.sl (xs ++ ys) (n + m) (.excl es))) a w o := fun hg =>
          grow_new (P := P) h (d := d) ho ht hi hz hsz hzs hes (base := some ⟨b, off, none⟩) (n := n) (cap := cap) (m := m) hvx' (olds := (List.range xs.length).map f) (by simp [hxl]) (first_of hxl hcell) (xs := xs) (by simp)
            (fun j hj hj' => by simpa using ⟨hone j hj', hxx j hj'⟩) hS hnl hnv hg hb1 hb2 hdd
        cases fl with
        | ro => cases hap
        | full =>
          simp only [Option.some.injEq, Prod.mk.injEq] at hap
          obtain ⟨rfl, rfl, rfl⟩ := hap
          obtain ⟨_, hcap⟩ := hf
          by_cases hm0 : m = 0
          · subst hm0
            rw [if_pos rfl]
            have hnn : news = [] := List.eq_nil_of_length_eq_zero (by rw [hS.newsLen, Nat.zero_mul])
            subst hnn
            have hr := run_append_room_src (P := P) w t u o.type e i ht hi b off n cap (a.eval y) 0 [] (by rw [hsz]; exact hS) (by omega) (fun j hj => by simp at hj) (fun j hj => by simp at hj)
            refine ⟨.slice (some ⟨b, off, none⟩) n cap, w, g, .inl ?_, by rw [hdd]; exact h.put fun t _ => .sl _ b off n cap xs .full f hlen hcell hone hxx ⟨‹_›, hcap⟩⟩
            rw [exec_append ho, hvx', hr]
            rfl
          · rw [if_neg hm0]
            exact hgrow (by omega)
        | own es' =>
          simp only at hap
          split at hap
          · rename_i he
            subst he
            simp only [Option.some.injEq, Prod.mk.injEq] at hap
            obtain ⟨rfl, rfl, rfl⟩ := hap
            cases ax with
            | lit v =>
              have := hax.lit v rfl g w none
              simp only [Arg.raw] at hraw
              subst hraw
              rw [hvx'] at this
              cases this with
              | slz _ _ _ hf => rcases hf with h | h <;> cases h
              | sl _ _ _ _ _ _ _ _ _ _ _ _ hf' => obtain ⟨⟨q, hq, _⟩, _⟩ := hf'; cases hq
            | slot tb =>
              simp only [Arg.raw] at hraw
              obtain ⟨_, hoff, _⟩ := hf
              subst hoff
              simp only [wback, List.getElem?_cons_zero]
              by_cases hroom : n + m ≤ cap
              · obtain ⟨hc1, hc2, g', hR⟩ := h.room (d := d) (.inl rfl) hraw (hd tb rfl) (by rw [← hax.eval tb rfl]; exact hvx') hnl (by rw [← hnl, hS.newsLen]) hS.one hnv hroom hes
                have hr := run_append_room_src (P := P) w t u o.type e i ht hi b 0 n cap (a.eval y) m news (by rw [hsz]; exact hS) hroom (by rw [hsz]; exact hc1) (by rw [hsz]; exact hc2)
                refine ⟨_, _, g', .inl (by rw [exec_append ho, hvx', hr]; rfl), ?_⟩
                rw [hdd, hsz]
                exact hR
              · have h1 := h.weak tb (v' := .sl xs n .ro) (fun rv hv => by rw [hraw] at hv; exact hv.ro1 _)
                obtain ⟨rv, w', g', hr, hR⟩ := grow_new (P := P) h1 (d := d) ho ht hi hz hsz hzs hes (base := some ⟨b, 0, none⟩) (n := n) (cap := cap) (m := m) hvx' (olds := (List.range xs.length).map f) (by simp [hxl]) (first_of hxl hcell) (xs := xs) (by simp)
                  (fun j hj hj' => by simpa using ⟨hone j hj', hxx j hj'⟩) hS hnl hnv (by omega) hb1 hb2 hdd
                obtain ⟨g'', hR'⟩ := hR.lower
                exact ⟨rv, w', g'', hr, hR'⟩
          · cases hap
        | excl es' =>
          simp only at hap
          split at hap
          · rename_i he
            subst he
            simp only [Option.some.injEq, Prod.mk.injEq] at hap
            obtain ⟨rfl, rfl, rfl⟩ := hap
            cases ax with
            | lit v =>
              have := hax.lit v rfl g w none
              simp only [Arg.raw] at hraw
              subst hraw
              rw [hvx'] at this
              cases this with
              | slz _ _ _ hf => rcases hf with h | h <;> cases h
              | sl _ _ _ _ _ _ _ _ _ _ _ _ hf' => obtain ⟨⟨q, hq, _⟩, _⟩ := hf'; cases hq
            | slot tb =>
              simp only [Arg.raw] at hraw
              obtain ⟨_, hoff, _⟩ := hf
              subst hoff
              simp only [wback, List.getElem?_cons_zero]
              by_cases hroom : n + m ≤ cap
              · obtain ⟨hc1, hc2, g', hR⟩ := h.room (d := d) (.inr rfl) hraw (hd tb rfl) (by rw [← hax.eval tb rfl]; exact hvx') hnl (by rw [← hnl, hS.newsLen]) hS.one hnv hroom hes
                have hr := run_append_room_src (P := P) w t u o.type e i ht hi b 0 n cap (a.eval y) m news (by rw [hsz]; exact hS) hroom (by rw [hsz]; exact hc1) (by rw [hsz]; exact hc2)
                refine ⟨_, _, g', .inl (by rw [exec_append ho, hvx', hr]; rfl), ?_⟩
                rw [hdd, hsz]
                exact hR
              · have h1 := h.weak tb (v' := .undef) (fun rv hv => .undef _ _)
                exact grow_new (P := P) h1 (d := d) ho ht hi hz hsz hzs hes (base := some ⟨b, 0, none⟩) (n := n) (cap := cap) (m := m) hvx' (olds := (List.range xs.length).map f) (by simp [hxl]) (first_of hxl hcell) (xs := xs) (by simp)
                  (fun j hj hj' => by simpa using ⟨hone j hj', hxx j hj'⟩) hS hnl hnv (by omega) hb1 hb2 hdd
          · cases hap
      · cases hap
  · cases hap

end
end Go.Sh
