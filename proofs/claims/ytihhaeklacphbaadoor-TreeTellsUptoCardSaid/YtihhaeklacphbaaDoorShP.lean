/-
  The shadow machine, part P: a row whose order is drawn needs to be gone through in one order alone, where the order does not matter.
-/
import Derived.Test.YtihhaeklacphbaaDoorShD
set_option linter.unusedSimpArgs false
set_option linter.unusedVariables false
namespace Go.Sh

/-- What it yields does not hang on the objects. -/
theorem pv_indep {c : Opc} (h : cls c = 0) {st : List Ob} {vs : List SV} {r : SV} (hr : pv st c vs = some r) (st2 : List Ob) : pv st2 c vs = some r := by
  unfold pv at hr
  split at hr
  all_goals first
    | exact hr
    | (cases hr; done)
    | (simp [cls] at h; done)

theorem ev_dflt {c : Opc} {st : List Ob} {vs : List SV} (h : ∀ st', ev st' c vs = (pv st' c vs).map fun r => (r, [], st')) (hc : cls c = 0) {r : SV} {wb : List (Nat × SV)} {st' : List Ob} (he : ev st c vs = some (r, wb, st')) : wb = [] ∧ st' = st ∧ ∀ st2, ev st2 c vs = some (r, wb, st2) := by
  rw [h] at he
  simp only [Option.map_eq_some_iff, Prod.mk.injEq] at he
  obtain ⟨r', hr, rfl, rfl, rfl⟩ := he
  exact ⟨rfl, rfl, fun st2 => by rw [h, pv_indep hc hr st2]; rfl⟩

theorem slcV_indep {es : Nat} {lo hi mx : Bool} {v : SV} {r : List SV} {st : List Ob} {x : SV} {wb : List (Nat × SV)} {st' : List Ob} (he : slcV es lo hi mx v r st = some (x, wb, st')) : st' = st ∧ ∀ st2, slcV es lo hi mx v r st2 = some (x, wb, st2) := by
  cases v
  all_goals
    (simp only [slcV, Option.bind_eq_some_iff] at he
     obtain ⟨l, hl, h, hh, m, hm, he⟩ := he
     first
      | (cases he; done)
      | (split at he
         · rename_i hc
           simp only [Option.some.injEq, Prod.mk.injEq] at he
           obtain ⟨rfl, rfl, rfl⟩ := he
           refine ⟨rfl, fun st2 => ?_⟩
           simp only [slcV, hl, Option.bind_some]
           rw [hh, Option.bind_some, hm, Option.bind_some, if_pos hc]
         · cases he))

theorem appV_st {es bytes : Nat} {a b : SV} {st : List Ob} {x : SV} {wb : List (Nat × SV)} {st' : List Ob} (he : appV es bytes a b st = some (x, wb, st')) : st' = st := by
  simp only [appV, Option.bind_eq_some_iff] at he
  obtain ⟨⟨m, ys⟩, hs, he⟩ := he
  dsimp only at he
  repeat' split at he
  all_goals first
    | (cases he; done)
    | (simp only [Option.some.injEq, Prod.mk.injEq] at he; exact he.2.2.symm)

theorem slcPV_indep {es len id o : Nat} {lo hi mx : Bool} {r : List SV} {st : List Ob} {x : SV} {wb : List (Nat × SV)} {st' : List Ob} (he : slcPV es len lo hi mx id o r st = some (x, wb, st')) : wb = [] ∧ st' = st ∧ ∀ st2, slcPV es len lo hi mx id o r st2 = some (x, wb, st2) := by
  unfold slcPV at he
  simp only [Option.bind_eq_some_iff] at he
  obtain ⟨l, hl, h, hh, m, hm, he⟩ := he
  split at he
  · rename_i hc
    simp only [Option.some.injEq, Prod.mk.injEq] at he
    obtain ⟨rfl, rfl, rfl⟩ := he
    refine ⟨rfl, rfl, fun st2 => ?_⟩
    unfold slcPV
    rw [hl, Option.bind_some, hh, Option.bind_some, hm, Option.bind_some, if_pos hc]
  · cases he

theorem cpyV_wb {es id off n : Nat} {y : SV} {st : List Ob} {x : SV} {wb : List (Nat × SV)} {st' : List Ob} (he : cpyV es id off n y st = some (x, wb, st')) : wb = [] := by
  unfold cpyV at he
  simp only [Option.bind_eq_some_iff] at he
  obtain ⟨⟨m, ys⟩, hs, he⟩ := he
  dsimp only at he
  split at he
  · split at he
    · simp only [Option.some.injEq, Prod.mk.injEq] at he; exact he.2.1.symm
    · cases he
  · cases he

theorem ev_indep {c : Opc} (h : cls c = 0) {st : List Ob} {vs : List SV} {r : SV} {wb : List (Nat × SV)} {st' : List Ob} (he : ev st c vs = some (r, wb, st')) : st' = st ∧ ∀ st2, ev st2 c vs = some (r, wb, st2) := by
  have dflt := fun h' => (ev_dflt (vs := vs) h' h he).2
  cases c <;> first
    | exact dflt fun _ => rfl
    | skip
  all_goals unfold ev at he
  all_goals split at he
  all_goals (try (rename_i heq; cases heq; done))
  all_goals (try (rename_i heq; injection heq; subst_vars))
  all_goals first
    | contradiction
    | exact slcV_indep he
    | exact (slcPV_indep he).2
    | (simp only [Option.map_eq_some_iff, pv] at he; obtain ⟨_, he, _⟩ := he; cases he; done)
    | (simp [cls] at h; done)
    | (first
       | (simp only [Option.some.injEq, Prod.mk.injEq] at he; obtain ⟨rfl, rfl, rfl⟩ := he; exact ⟨rfl, fun _ => rfl⟩)
       | (split at he <;> first
           | (cases he; done)
           | (rename_i hif; simp only [Option.some.injEq, Prod.mk.injEq] at he; obtain ⟨rfl, rfl, rfl⟩ := he; exact ⟨rfl, fun _ => by simp only [ev]; rw [if_pos hif]⟩)
           | (rename_i hif; simp only [Option.some.injEq, Prod.mk.injEq] at he; obtain ⟨rfl, rfl, rfl⟩ := he; exact ⟨rfl, fun _ => by simp only [ev]; rw [if_neg hif]⟩)
           | (rename_i hif; simp only [Option.map_eq_some_iff, Prod.mk.injEq] at he; obtain ⟨y, hy, rfl, rfl, rfl⟩ := he; exact ⟨rfl, fun _ => by simp only [ev]; rw [if_pos hif, hy]; rfl⟩))
       | (simp only [Option.map_eq_some_iff] at he
          obtain ⟨y, hy, he⟩ := he
          split at he <;> (rename_i hif; simp only [Prod.mk.injEq] at he; obtain ⟨rfl, rfl, rfl⟩ := he; refine ⟨rfl, fun _ => ?_⟩; simp only [ev, hy, Option.map_some]; first | rw [if_pos hif] | rw [if_neg hif])))
    | trace_state

theorem ev_st {c : Opc} (h : cls c ≤ 1) {st : List Ob} {vs : List SV} {r : SV} {wb : List (Nat × SV)} {st' : List Ob} (he : ev st c vs = some (r, wb, st')) : st' = st := by
  by_cases h0 : cls c = 0
  · exact (ev_indep h0 he).1
  · cases c <;> first | (simp [cls] at h0; done) | (simp [cls] at h; done) | skip
    all_goals first
      | (change (pv st _ vs).map _ = _ at he
         simp only [Option.map_eq_some_iff, Prod.mk.injEq] at he
         obtain ⟨_, _, _, _, rfl⟩ := he
         rfl)
      | (unfold ev at he
         split at he
         all_goals (try (rename_i heq; cases heq; done))
         all_goals first
           | (rename_i heq; injection heq; subst_vars; exact appV_st he)
           | (simp only [Option.map_eq_some_iff, Prod.mk.injEq] at he
              obtain ⟨_, _, _, _, rfl⟩ := he
              rfl))

theorem ev_wb {c : Opc} (h : mayWb c = false) {st : List Ob} {vs : List SV} {r : SV} {wb : List (Nat × SV)} {st' : List Ob} (he : ev st c vs = some (r, wb, st')) : wb = [] := by
  unfold ev at he
  split at he
  all_goals first
    | (simp [mayWb] at h; done)
    | exact cpyV_wb he
    | exact (slcPV_indep he).1
    | (simp only [Option.some.injEq, Prod.mk.injEq] at he; exact he.2.1.symm)
    | (simp only [Option.map_eq_some_iff, Prod.mk.injEq] at he; obtain ⟨_, _, _, h2, _⟩ := he; exact h2.symm)
    | (split at he
       · simp only [Option.some.injEq, Prod.mk.injEq] at he; exact he.2.1.symm
       · cases he)
    | (split at he
       · simp only [Option.map_eq_some_iff, Prod.mk.injEq] at he; obtain ⟨_, _, _, h2, _⟩ := he; exact h2.symm
       · cases he)
    | (split at he
       · simp only [Option.map_eq_some_iff] at he
         obtain ⟨_, _, he⟩ := he
         split at he <;> (simp only [Prod.mk.injEq] at he; exact he.2.1.symm)
       · cases he)

/-! Steps, and their order. -/

/-- The slots that are written, and what they are given. -/
def sets (l : List (Nat × SV)) (env : List SV) : List SV := l.foldl (fun e p => e.set p.1 p.2) env

theorem sets_append (l m : List (Nat × SV)) (env : List SV) : sets (l ++ m) env = sets m (sets l env) := by simp [sets]

theorem sets_len : ∀ (l : List (Nat × SV)) (env : List SV), (sets l env).length = env.length
  | [], _ => rfl
  | p :: l, env => by
    show (sets l (env.set p.1 p.2)).length = _
    rw [sets_len l]; simp

theorem sets_get {l : List (Nat × SV)} {t : Nat} : ∀ {env : List SV}, (∀ p ∈ l, p.1 ≠ t) → (sets l env)[t]? = env[t]? := by
  induction l with
  | nil => intro env _; rfl
  | cons p l ih =>
    intro env h
    show (sets l (env.set p.1 p.2))[t]? = _
    rw [ih fun q hq => h q (List.mem_cons_of_mem _ hq), List.getElem?_set_ne (h p List.mem_cons_self)]

theorem sets_comm1 (p : Nat × SV) : ∀ (l : List (Nat × SV)) (env : List SV), (∀ q ∈ l, q.1 ≠ p.1) → (sets l env).set p.1 p.2 = sets l (env.set p.1 p.2)
  | [], _, _ => rfl
  | q :: l, env, h => by
    show (sets l (env.set q.1 q.2)).set p.1 p.2 = sets l ((env.set p.1 p.2).set q.1 q.2)
    rw [sets_comm1 p l _ fun x hx => h x (List.mem_cons_of_mem _ hx), List.set_comm _ _ (h q List.mem_cons_self)]

theorem sets_comm : ∀ (l m : List (Nat × SV)) (env : List SV), (∀ p ∈ l, ∀ q ∈ m, q.1 ≠ p.1) → sets l (sets m env) = sets m (sets l env)
  | [], _, _, _ => rfl
  | p :: l, m, env, h => by
    show sets l ((sets m env).set p.1 p.2) = sets m (sets l (env.set p.1 p.2))
    rw [sets_comm1 p m env (h p List.mem_cons_self)]
    exact sets_comm l m _ fun x hx => h x (List.mem_cons_of_mem _ hx)

/-- What a step does to the slots. -/
theorem wback_sets (a : List Arg) : ∀ (wb : List (Nat × SV)), ∃ l : List (Nat × SV), (∀ p ∈ l, p.1 ∈ slots a) ∧ (wb = [] → l = []) ∧ ∀ env, wback a env wb = sets l env
  | [] => ⟨[], by simp, fun _ => rfl, fun _ => rfl⟩
  | (j, v) :: r => by
    obtain ⟨l, h1, _, h2⟩ := wback_sets a r
    cases hj : a[j]? with
    | none => exact ⟨l, h1, fun h => (by cases h), fun env => by simp only [wback, hj]; exact h2 env⟩
    | some x =>
      cases x with
      | lit v' => exact ⟨l, h1, fun h => (by cases h), fun env => by simp only [wback, hj]; exact h2 env⟩
      | slot t =>
        refine ⟨(t, v) :: l, ?_, fun h => (by cases h), fun env => by simp only [wback, hj]; exact h2 _⟩
        intro p hp
        rcases List.mem_cons.1 hp with rfl | hp
        · exact List.mem_filterMap.2 ⟨.slot t, List.mem_of_getElem? hj, rfl⟩
        · exact h1 p hp

theorem put_sets (d : Option Nat) (v : SV) : ∃ l : List (Nat × SV), (∀ p ∈ l, p.1 ∈ d.toList) ∧ ∀ s : S, s.put d v = { s with env := sets l s.env } := by
  cases d with
  | none => exact ⟨[], by simp, fun _ => rfl⟩
  | some d => exact ⟨[(d, v)], by simp, fun _ => rfl⟩

/-- A step: what is written is told; the objects are those of 'st''. -/
def Step (O : Orc) (i : SI) (s : S) (l : List (Nat × SV)) (st' : List Ob) : Prop :=
  known s i = true ∧
  if wanted s i then ∃ r wb, stepV O s.st i.c (i.a.map (Arg.raw s)) r wb st' ∧ ∀ env, S.app ⟨env, s.st⟩ i r wb st' = ⟨sets l env, st'⟩
  else st' = s.st ∧ ∀ env, S.put ⟨env, s.st⟩ i.d (.tup []) = ⟨sets l env, s.st⟩

theorem stepV_st {O : Orc} {c : Opc} (h : cls c ≤ 1) {st : List Ob} {vs : List SV} {r : SV} {wb : List (Nat × SV)} {st' : List Ob} (he : stepV O st c vs r wb st') : st' = st := by
  unfold stepV at he
  split at he
  · simp [cls] at h
  · exact he.2
  · simp [cls] at h
  · simp [cls] at h
  · exact ev_st h he

theorem stepV_indep {O : Orc} {c : Opc} (h : cls c = 0) {st : List Ob} {vs : List SV} {r : SV} {wb : List (Nat × SV)} {st' : List Ob} (he : stepV O st c vs r wb st') (st2 : List Ob) : stepV O st2 c vs r wb st2 := by
  unfold stepV at he ⊢
  split at he
  · simp [cls] at h
  · exact ⟨he.1, rfl⟩
  · simp [cls] at h
  · simp [cls] at h
  · exact (ev_indep h he).2 st2

theorem stepV_wb {O : Orc} {c : Opc} (h : mayWb c = false) {st : List Ob} {vs : List SV} {r : SV} {wb : List (Nat × SV)} {st' : List Ob} (he : stepV O st c vs r wb st') : wb = [] := by
  unfold stepV at he
  split at he
  · simp [mayWb] at h
  · simp [mayWb] at h
  · simp [mayWb] at h
  · simp [mayWb] at h
  · exact ev_wb h he

theorem app_sets {O : Orc} {i : SI} {st : List Ob} {vs : List SV} {r : SV} {wb : List (Nat × SV)} {st' : List Ob} (he : stepV O st i.c vs r wb st') : ∃ l : List (Nat × SV), (∀ p ∈ l, p.1 ∈ i.writes) ∧ ∀ env st0, S.app ⟨env, st0⟩ i r wb st' = ⟨sets l env, st'⟩ := by
  obtain ⟨l1, h1, h1', h2⟩ := wback_sets i.a wb
  obtain ⟨l2, h3, h4⟩ := put_sets i.d r
  refine ⟨l1 ++ l2, ?_, fun env st0 => ?_⟩
  · intro p hp
    rcases List.mem_append.1 hp with hp | hp
    · unfold SI.writes
      by_cases hm : mayWb i.c = true
      · rw [if_pos hm]; exact List.mem_append_right _ (h1 p hp)
      · rw [h1' (stepV_wb (by simpa using hm) he)] at hp; cases hp
    · exact List.mem_append_left _ (h3 p hp)
  · unfold S.app
    rw [h4, sets_append, h2]

theorem stepK_iff {O : Orc} {i : SI} {K : S → Prop} {s : S} : stepK O i K s ↔ ∃ l st', (∀ p ∈ l, p.1 ∈ i.writes) ∧ Step O i s l st' ∧ K ⟨sets l s.env, st'⟩ := by
  unfold stepK Step
  constructor
  · rintro ⟨hk, h⟩
    split at h
    · rename_i hw
      obtain ⟨r, wb, st', he, hK⟩ := h
      obtain ⟨l, h1, h2⟩ := app_sets he
      refine ⟨l, st', h1, ⟨hk, ?_⟩, ?_⟩
      · rw [if_pos hw]; exact ⟨r, wb, he, fun env => h2 env _⟩
      · have := h2 s.env s.st; rw [← this]; exact hK
    · rename_i hw
      obtain ⟨l, h1, h2⟩ := put_sets i.d (.tup [])
      refine ⟨l, s.st, fun p hp => List.mem_append_left _ (h1 p hp), ⟨hk, ?_⟩, ?_⟩
      · rw [if_neg hw]; exact ⟨rfl, fun env => h2 _⟩
      · rw [h2] at h; exact h
  · rintro ⟨l, st', _, ⟨hk, h⟩, hK⟩
    refine ⟨hk, ?_⟩
    split at h
    · rename_i hw
      rw [if_pos hw]
      obtain ⟨r, wb, he, h2⟩ := h
      refine ⟨r, wb, st', he, ?_⟩
      have := h2 s.env; rw [show (⟨s.env, s.st⟩ : S) = s from rfl] at this; rw [this]; exact hK
    · rename_i hw
      rw [if_neg hw]
      obtain ⟨rfl, h2⟩ := h
      have := h2 s.env; rw [show (⟨s.env, s.st⟩ : S) = s from rfl] at this; rw [this]; exact hK

theorem get_sets {l : List (Nat × SV)} {t : Nat} {s : S} {st : List Ob} (h : ∀ p ∈ l, p.1 ≠ t) : S.get ⟨sets l s.env, st⟩ t = s.get t := by
  simp only [S.get, List.getD_eq_getElem?_getD, sets_get h]

/-- What a step reads is not changed by what does not write it. -/
theorem Step.moved {O : Orc} {i : SI} {s : S} {l m : List (Nat × SV)} {st' st2 : List Ob} (h : Step O i s l st') (hm : ∀ p ∈ m, p.1 ∉ i.reads) (hc : cls i.c = 0 ∨ (cls i.c = 1 ∧ st2 = s.st) ∨ st2 = s.st) :
    Step O i ⟨sets m s.env, st2⟩ l (if cls i.c = 0 then st2 else st') := by
  have hraw : i.a.map (Arg.raw ⟨sets m s.env, st2⟩) = i.a.map (Arg.raw s) := by
    refine List.map_congr_left fun x hx => ?_
    cases x with
    | lit v => rfl
    | slot t =>
      refine get_sets fun p hp e => hm p hp ?_
      rw [e]
      exact List.mem_append_left _ (List.mem_filterMap.2 ⟨.slot t, hx, rfl⟩)
  have hg : known ⟨sets m s.env, st2⟩ i = known s i ∧ wanted ⟨sets m s.env, st2⟩ i = wanted s i := by
    unfold known wanted
    cases hgi : i.g with
    | none => exact ⟨rfl, rfl⟩
    | some q =>
      obtain ⟨t, b⟩ := q
      have : S.get ⟨sets m s.env, st2⟩ t = s.get t := get_sets fun p hp e => hm p hp (by
        rw [e]; unfold SI.reads; rw [hgi]; simp)
      simp only [this, and_self]
  obtain ⟨hk, h⟩ := h
  refine ⟨hg.1.trans hk, ?_⟩
  rw [hg.2]
  split at h
  · rename_i hw
    rw [if_pos hw]
    obtain ⟨r, wb, he, h2⟩ := h
    rw [hraw]
    by_cases h0 : cls i.c = 0
    · rw [if_pos h0]
      refine ⟨r, wb, stepV_indep h0 he st2, fun env => ?_⟩
      have := congrArg S.env (h2 env)
      unfold S.app at this ⊢
      cases hd : i.d <;> rw [hd] at this <;> simp only [S.put] at this ⊢ <;> rw [this]
    · rw [if_neg h0]
      have hst : st2 = s.st := by rcases hc with h | h | h; exact absurd h h0; exact h.2; exact h
      subst hst
      exact ⟨r, wb, he, h2⟩
  · rename_i hw
    rw [if_neg hw]
    obtain ⟨rfl, h2⟩ := h
    have h3 : ∀ env, S.put ⟨env, st2⟩ i.d (.tup []) = ⟨sets l env, st2⟩ := by
      intro env
      have := congrArg S.env (h2 env)
      cases hd : i.d <;> rw [hd] at this <;> simp only [S.put] at this ⊢ <;> rw [← this]
    by_cases h0 : cls i.c = 0
    · rw [if_pos h0]; exact ⟨rfl, h3⟩
    · rw [if_neg h0]
      have hst : st2 = s.st := by rcases hc with h | h | h; exact absurd h h0; exact h.2; exact h
      subst hst
      exact ⟨rfl, h3⟩

theorem Step.st {O : Orc} {i : SI} {s : S} {l : List (Nat × SV)} {st' : List Ob} (h : Step O i s l st') (hc : cls i.c ≤ 1) : st' = s.st := by
  obtain ⟨_, h⟩ := h
  split at h
  · obtain ⟨r, wb, he, _⟩ := h; exact stepV_st hc he
  · exact h.1

theorem commute_spec {a b : SI} (h : commute a b = true) : (∀ t ∈ a.writes, t ∉ b.reads ∧ t ∉ b.writes) ∧ (∀ t ∈ b.writes, t ∉ a.reads ∧ t ∉ a.writes) ∧ (cls a.c = 0 ∨ cls b.c = 0 ∨ (cls a.c = 1 ∧ cls b.c = 1)) := by
  simp only [commute, apart, Bool.and_eq_true, List.all_eq_true, Bool.not_eq_true', List.contains_eq_mem, decide_eq_false_iff_not, Bool.or_eq_true, beq_iff_eq] at h
  obtain ⟨⟨h1, h2⟩, h3⟩ := h
  exact ⟨h1, h2, by rcases h3 with (h | h) | h; exact .inl h; exact .inr (.inl h); exact .inr (.inr h)⟩

theorem commute_ok {O : Orc} {a b : SI} (h : commute a b = true) {K : S → Prop} {s : S} (hk : stepK O a (stepK O b K) s) : stepK O b (stepK O a K) s := by
  obtain ⟨h1, h2, h3⟩ := commute_spec h
  rw [stepK_iff] at hk
  obtain ⟨l, st1, hl, ha, hk⟩ := hk
  rw [stepK_iff] at hk
  obtain ⟨m, st2, hm, hb, hK⟩ := hk
  have hab : ∀ p ∈ l, p.1 ∉ b.reads := fun p hp => (h1 _ (hl p hp)).1
  have hba : ∀ p ∈ m, p.1 ∉ a.reads := fun p hp => (h2 _ (hm p hp)).1
  have hdis : ∀ p ∈ m, ∀ q ∈ l, q.1 ≠ p.1 := fun p hp q hq e => (h1 _ (hl q hq)).2 (by rw [e]; exact hm p hp)
  -- b at s
  have hb' : Step O b s m (if cls b.c = 0 then s.st else st2) := by
    obtain ⟨hkn, hw⟩ := hb
    have hc : cls b.c = 0 ∨ (cls b.c = 1 ∧ s.st = st1) ∨ s.st = st1 := by
      rcases h3 with h | h | h
      · exact .inr (.inr (ha.st (by omega)).symm)
      · exact .inl h
      · exact .inr (.inl ⟨h.2, (ha.st (by omega)).symm⟩)
    have hraw : b.a.map (Arg.raw ⟨sets l s.env, st1⟩) = b.a.map (Arg.raw s) := by
      refine List.map_congr_left fun x hx => ?_
      cases x with
      | lit v => rfl
      | slot t =>
        refine get_sets fun p hp e => hab p hp ?_
        rw [e]
        exact List.mem_append_left _ (List.mem_filterMap.2 ⟨.slot t, hx, rfl⟩)
    have hg : known ⟨sets l s.env, st1⟩ b = known s b ∧ wanted ⟨sets l s.env, st1⟩ b = wanted s b := by
      unfold known wanted
      cases hgi : b.g with
      | none => exact ⟨rfl, rfl⟩
      | some q =>
        obtain ⟨t, bb⟩ := q
        have : S.get ⟨sets l s.env, st1⟩ t = s.get t := get_sets fun p hp e => hab p hp (by
          rw [e]; unfold SI.reads; rw [hgi]; simp)
        simp only [this, and_self]
    rw [hg.1] at hkn
    rw [hg.2] at hw
    refine ⟨hkn, ?_⟩
    split at hw
    · rename_i hwt
      rw [if_pos hwt]
      obtain ⟨r, wb, he, h4⟩ := hw
      rw [hraw] at he
      by_cases h0 : cls b.c = 0
      · rw [if_pos h0]
        refine ⟨r, wb, stepV_indep h0 he s.st, fun env => ?_⟩
        have := congrArg S.env (h4 env)
        unfold S.app at this ⊢
        cases hd : b.d <;> rw [hd] at this <;> simp only [S.put] at this ⊢ <;> rw [this]
      · rw [if_neg h0]
        have hst : s.st = st1 := by rcases hc with h | h | h; exact absurd h h0; exact h.2; exact h
        rw [hst]
        exact ⟨r, wb, he, h4⟩
    · rename_i hwt
      rw [if_neg hwt]
      obtain ⟨rfl, h4⟩ := hw
      have h5 : ∀ env, S.put ⟨env, s.st⟩ b.d (.tup []) = ⟨sets m env, s.st⟩ := by
        intro env
        have := congrArg S.env (h4 env)
        cases hd : b.d <;> rw [hd] at this <;> simp only [S.put] at this ⊢ <;> rw [← this]
      by_cases h0 : cls b.c = 0
      · rw [if_pos h0]; exact ⟨rfl, h5⟩
      · rw [if_neg h0]
        have hst : s.st = st2 := by rcases hc with h | h | h; exact absurd h h0; exact h.2; exact h
        exact ⟨hst.symm, h5⟩
  rw [stepK_iff]
  refine ⟨m, _, hm, hb', ?_⟩
  rw [stepK_iff]
  have ha' := ha.moved (m := m) (st2 := if cls b.c = 0 then s.st else st2) hba (by
    rcases h3 with h | h | h
    · exact .inl h
    · exact .inr (.inr (by rw [if_pos h]))
    · refine .inr (.inl ⟨h.1, ?_⟩)
      rw [if_neg (by omega)]
      exact (hb.st (by omega)).trans (ha.st (by omega)))
  refine ⟨l, _, hl, ha', ?_⟩
  have e1 : sets l (sets m s.env) = sets m (sets l s.env) := sets_comm l m s.env fun p hp q hq e => hdis q hq p hp e.symm
  rw [e1]
  have e2 : (if cls a.c = 0 then (if cls b.c = 0 then s.st else st2) else st1) = st2 := by
    by_cases ha0 : cls a.c = 0
    · rw [if_pos ha0]
      by_cases hb0 : cls b.c = 0
      · rw [if_pos hb0]
        exact ((hb.st (by omega)).trans (ha.st (by omega))).symm
      · rw [if_neg hb0]
    · rw [if_neg ha0]
      rcases h3 with h | h | h
      · exact absurd h ha0
      · exact (hb.st (by omega)).symm
      · exact (hb.st (by omega)).symm
  rw [e2]
  exact hK

/-! All orders. -/

theorem stepK_mono {O : Orc} {i : SI} {K K' : S → Prop} (h : ∀ s, K s → K' s) {s : S} (hk : stepK O i K s) : stepK O i K' s := by
  refine ⟨hk.1, ?_⟩
  have := hk.2
  split at this
  · rename_i hw; rw [if_pos hw]
    obtain ⟨r, wb, st', h1, h2⟩ := this
    exact ⟨r, wb, st', h1, h _ h2⟩
  · rename_i hw; rw [if_neg hw]; exact h _ this

theorem rm_len {l : List DI} {d : DI} (h : d ∈ l) : (rmD l d.i).length < l.length := by
  unfold rmD
  exact List.length_filter_lt_length_iff_exists.2 ⟨d, h, by simp⟩

theorem rm_comm (l : List DI) (i j : Nat) : rmD (rmD l i) j = rmD (rmD l j) i := by
  unfold rmD
  rw [List.filter_filter, List.filter_filter]
  congr 1
  funext x
  rw [Bool.and_comm]

theorem ready_rm {l : List DI} {d : DI} (h : readyD l d = true) (i : Nat) : readyD (rmD l i) d = true := by
  unfold readyD rmD at *
  rw [List.all_eq_true] at *
  intro e he
  have := h e he
  rw [List.all_eq_true] at *
  exact fun x hx => this x ((List.mem_filter.1 hx).1)

/-- It must stand behind k. -/
inductive Desc (l : List DI) (k : Nat) : DI → Prop
  | one {e : DI} (he : e ∈ l) (h : k ∈ e.after) : Desc l k e
  | step {e e' : DI} (h : Desc l k e') (he : e ∈ l) (h' : e'.i ∈ e.after) : Desc l k e

theorem Desc.mem {l : List DI} {k : Nat} {e : DI} (h : Desc l k e) : e ∈ l := by cases h <;> assumption

def Uniq (l : List DI) : Prop := ∀ a ∈ l, ∀ b ∈ l, a.i = b.i → a = b

theorem Uniq.rm {l : List DI} (h : Uniq l) (i : Nat) : Uniq (rmD l i) := fun a ha b hb e => h a (List.mem_filter.1 ha).1 b (List.mem_filter.1 hb).1 e

theorem mem_rm {l : List DI} {i : Nat} {y : DI} (hy : y ∈ l) (hne : y.i ≠ i) : y ∈ rmD l i := List.mem_filter.2 ⟨hy, by simpa using hne⟩

theorem Desc.not_ready {l : List DI} {d e : DI} (h : Desc l d.i e) (hd : d ∈ l) (hr : readyD l e = true) : False := by
  have key : ∀ x ∈ l, x.i ∈ e.after → False := by
    intro x hx hin
    have := List.all_eq_true.1 hr x.i hin
    have := List.all_eq_true.1 this x hx
    simp at this
  cases h with
  | one he h => exact key d hd h
  | step h he h' => exact key _ h.mem h'

theorem Desc.rm {l : List DI} {d e : DI} (hu : Uniq l) (hd : d ∈ l) (he : e ∈ l) (hr : readyD l e = true) {y : DI} (h : Desc l d.i y) : y.i ≠ e.i → Desc (rmD l e.i) d.i y := by
  induction h with
  | one hy h => exact fun hne => .one (mem_rm hy hne) h
  | step h hy h' ih =>
    intro hne
    refine .step (ih fun hx => ?_) (mem_rm hy hne) h'
    rw [hu _ h.mem _ he hx] at h
    exact h.not_ready hd hr

theorem behind_spec {l : List DI} {k : Nat} : ∀ (m : List DI) (acc : List Nat), (∀ e ∈ m, e ∈ l) → (∀ i ∈ acc, i = k ∨ ∃ e, e.i = i ∧ Desc l k e) → ∀ i ∈ behind m acc, i = k ∨ ∃ e, e.i = i ∧ Desc l k e
  | [], acc, _, h => h
  | e :: m, acc, hm, h => by
    refine behind_spec m _ (fun e he => hm e (List.mem_cons_of_mem _ he)) ?_
    intro i hi
    replace hi : i ∈ (if e.after.any acc.contains = true then e.i :: acc else acc) := hi
    split at hi
    · rename_i ha
      rcases List.mem_cons.1 hi with rfl | hi
      · obtain ⟨j, hj, hc⟩ := List.any_eq_true.1 ha
        have hj' : j ∈ acc := by simpa using hc
        have hel := hm e List.mem_cons_self
        rcases h j hj' with rfl | ⟨e', rfl, hd⟩
        · exact .inr ⟨e, rfl, .one hel hj⟩
        · exact .inr ⟨e, rfl, .step hd hel hj⟩
      · exact h i hi
    · exact h i hi

/-- The first one that may be taken first is taken first. -/
theorem take_ok {O : Orc} {Q : S → Prop} {d : DI} : ∀ (n : Nat) (l : List DI) (s : S), d ∈ l → Uniq l → readyD l d = true → (∀ e ∈ l, e.i ≠ d.i → Desc l d.i e ∨ commute d.op e.op = true) → l.length ≤ n + 1 →
    stepK O d.op (srunA O Q n (rmD l d.i)) s → srunA O Q (n + 1) l s := by
  intro n
  induction n with
  | zero =>
    intro l s hd hu hr hc hl hk
    match l, hl with
    | [], _ => cases hd
    | [x], _ =>
      have hx : d = x := by simpa using hd
      subst hx
      intro e he _
      have : e = d := by simpa using he
      subst this
      exact hk
    | _ :: _ :: _, hl => simp at hl
  | succ n ih =>
    intro l s hd hu hr hc hl hk
    match l, hd with
    | x :: l, hd =>
      intro e he hre
      by_cases hei : e.i = d.i
      · rw [hu e he d hd hei]; exact hk
      · have hcm : commute d.op e.op = true := (hc e he hei).resolve_left fun hin => hin.not_ready hd hre
        have hmem : e ∈ rmD (x :: l) d.i := mem_rm he hei
        -- d, then e
        have h2 : stepK O d.op (stepK O e.op (srunA O Q n (rmD (rmD (x :: l) d.i) e.i))) s := by
          refine stepK_mono (fun s' hs' => ?_) hk
          generalize hl' : rmD (x :: l) d.i = l' at hs' hmem
          match l', hmem with
          | y :: l', hmem =>
            refine hs' e hmem ?_
            rw [← hl']
            exact ready_rm hre _
        have h3 := commute_ok hcm h2
        refine stepK_mono (fun s' hs' => ?_) h3
        refine ih (rmD (x :: l) e.i) s' (mem_rm hd (fun h => hei h.symm)) (hu.rm _) (ready_rm hr _) (fun y hy hyd => ?_) ?_ ?_
        · have hyl := (List.mem_filter.1 hy).1
          have hye : y.i ≠ e.i := by simpa using (List.mem_filter.1 hy).2
          exact (hc y hyl hyd).imp (fun h => h.rm hu hd he hre hye) id
        · have := rm_len he; omega
        · rw [rm_comm]; exact hs'

theorem swp_consD {O : Orc} {Q : Ex → S → Prop} {d : SI} {c : SC} {s : S} (h : swp O (consD d c) Q s) : stepK O d (swp O c Q) s := by
  unfold consD at h
  split at h
  · exact h
  · exact h
  · exact h

theorem plan_ok {O : Orc} {Q : S → Prop} {QQ : Ex → S → Prop} (hQ : ∀ s, QQ .normal s → Q s) : ∀ (n : Nat) (l : List DI) (s : S), l.length ≤ n → Uniq l → swp O (planD n l) QQ s → srunA O Q n l s := by
  intro n
  induction n with
  | zero =>
    intro l s hl _ h
    match l with
    | [] => exact hQ s h
    | _ :: _ => simp at hl
  | succ n ih =>
    intro l s hl hu h
    match l with
    | [] => exact hQ s h
    | d :: l =>
      simp only [planD] at h
      split at h
      · rename_i e hfe
        have hel : e ∈ d :: l := List.mem_of_find?_eq_some hfe
        have hf := List.find?_some hfe
        generalize d :: l = l at *
        simp only [first, Bool.and_eq_true, List.all_eq_true, Bool.or_eq_true, List.contains_eq_mem, decide_eq_true_eq, beq_iff_eq] at hf
        obtain ⟨hr, hf⟩ := hf
        refine take_ok (d := e) n l s hel hu hr ?_ hl ?_
        · intro y hy hyi
          rcases (hf y hy).resolve_left hyi with (h | h) | h
          · exact .inl (.one hy h)
          · exact .inr h
          · rcases behind_spec (l := l) (k := e.i) l [e.i] (fun e he => he) (fun i hi => .inl (by simpa using hi)) _ h with h | ⟨e', h1, h2⟩
            · exact absurd h hyi
            · rw [← hu _ h2.mem _ hy h1]; exact .inl h2
        · refine stepK_mono (fun s' h' => ih _ s' ?_ (hu.rm _) h') (swp_consD h)
          have := rm_len hel
          omega
      · intro e he hre
        have hmem : e ∈ (d :: l).filter (readyD (d :: l)) := List.mem_filter.2 ⟨he, hre⟩
        have key : ∀ (ls : List DI), e ∈ ls → swp O (ls.foldr (fun e acc => .both (consD e.op (planD n (rmD (d :: l) e.i))) acc) .tt) QQ s → swp O (consD e.op (planD n (rmD (d :: l) e.i))) QQ s := by
          intro ls
          induction ls with
          | nil => intro h; cases h
          | cons y ls ihl =>
            intro hm hh
            rw [List.foldr_cons] at hh
            obtain ⟨h1, h2⟩ := hh
            rcases List.mem_cons.1 hm with rfl | hm
            · exact h1
            · exact ihl hm h2
        have := key _ hmem h
        refine stepK_mono (fun s' h' => ih _ s' ?_ (hu.rm _) h') (swp_consD this)
        have := rm_len he
        omega

end Go.Sh
