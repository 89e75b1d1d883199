/-
  The shadow machine, part K: what changes hands; made, built, boxed.
-/
import Derived.Test.YtihhaeklacphbaaDoorShJ
set_option linter.unusedSimpArgs false
set_option linter.unusedVariables false
namespace Go.Sh

section
variable {P : Program} {g0 : Gh} {w0 : World} {g : Gh} {w : World} {s : S} {a : Act} {o : Oper}

theorem exc_inv {v : SV} (h : exc v = true) : ∃ xs n es, v = .sl xs n (.excl es) := by
  unfold exc at h; split at h
  · exact ⟨_, _, _, rfl⟩
  · cases h
theorem flg_inv {v : SV} (h : flg v = true) : ∃ xs n es, v = .sl xs n (.own es) ∨ v = .sl xs n (.excl es) := by
  unfold flg at h; split at h
  · exact ⟨_, _, _, .inl rfl⟩
  · exact ⟨_, _, _, .inr rfl⟩
  · cases h
theorem got_ro {v : SV} (h : exc v = false) : got v = ro v := by
  unfold got; split
  · simp [exc] at h
  · rfl

theorem AOk.flg_slot {x : Operand} {ar : Arg} (h : AOk g w s a x ar) (hf : flg (ar.raw s) = true) : ∃ t, ar = .slot t := by
  cases ar with
  | slot t => exact ⟨t, rfl⟩
  | lit v =>
    obtain ⟨xs, n, es, h1⟩ := flg_inv hf
    have := h.lit _ rfl g w none
    generalize a.eval x = rv at this
    simp only [Arg.raw] at h1
    rcases h1 with rfl | rfl <;> cases this <;> rename_i hf <;> first | (obtain ⟨⟨q, hq, _⟩, _⟩ := hf; cases hq; done) | (rcases hf with h | h <;> cases h)

theorem exc_flg {v : SV} (h : exc v = true) : flg v = true := by obtain ⟨_, _, _, rfl⟩ := exc_inv h; rfl

theorem AOk.next {x : Operand} {ar : Arg} (h : AOk g w s a x ar) {g' : Gh} {w' : World} {s' : S} (he : EnvOk g' w' s'.env a.tmps) : AOk g' w' s' a x ar :=
  ⟨h.eval, fun t e => by rw [h.eval t e]; exact he.get t, h.lit⟩

/-- A state in which some of what was exclusive is published. -/
structure Pubd (s s' : S) : Prop where
  st : s'.st = s.st
  get : ∀ t, s'.get t = s.get t ∨ exc (s.get t) = true ∧ s'.get t = pub (s.get t)

theorem Pubd.refl (s : S) : Pubd s s := ⟨rfl, fun _ => .inl rfl⟩

theorem Rel.publish {s' : S} (h : Rel g0 w0 g s' a w) (hp : Pubd s s') {t : Nat} (he : exc (s.get t) = true) :
    ∃ g', Rel g0 w0 g' { s' with env := s'.env.set t (Sh.pub (s.get t)) } a w ∧ Pubd s { s' with env := s'.env.set t (Sh.pub (s.get t)) } ∧
      S.get { s' with env := s'.env.set t (Sh.pub (s.get t)) } t = Sh.pub (s.get t) ∧ ∀ t', s'.get t' = Sh.pub (s.get t') → S.get { s' with env := s'.env.set t (Sh.pub (s.get t)) } t' = Sh.pub (s.get t') := by
  obtain ⟨xs, n, es, hv⟩ := exc_inv he
  have hlt : t < s'.env.length := by
    rcases hp.get t with h1 | ⟨_, h1⟩
    · exact (get_lt h1 (by rw [hv]; simp)).1
    · exact (get_lt h1 (by rw [hv]; simp [Sh.pub])).1
  have hget : ∀ t', S.get { s' with env := s'.env.set t (Sh.pub (s.get t)) } t' = if t = t' then Sh.pub (s.get t) else s'.get t' := by
    intro t'
    simp only [S.get, List.getD_eq_getElem?_getD, List.getElem?_set]
    split
    · rename_i e; subst e; simp [hlt]
    · rfl
  have hrest : Pubd s { s' with env := s'.env.set t (Sh.pub (s.get t)) } ∧ S.get { s' with env := s'.env.set t (Sh.pub (s.get t)) } t = Sh.pub (s.get t) ∧ ∀ t', s'.get t' = Sh.pub (s.get t') → S.get { s' with env := s'.env.set t (Sh.pub (s.get t)) } t' = Sh.pub (s.get t') := by
    refine ⟨⟨hp.st, fun t' => ?_⟩, by rw [hget, if_pos rfl], fun t' h' => ?_⟩
    · rw [hget]
      split
      · rename_i e; subst e; exact .inr ⟨he, rfl⟩
      · exact hp.get t'
    · rw [hget]
      split
      · rename_i e; subst e; rfl
      · exact h'
  rcases hp.get t with h1 | ⟨_, h1⟩
  · rw [hv] at h1
    obtain ⟨g', hR⟩ := h.pub t h1
    have e : Sh.pub (s.get t) = .sl xs n (.own es) := by rw [hv]; rfl
    exact ⟨g', by rw [e]; exact hR, hrest⟩
  · have e : s'.env.set t (Sh.pub (s.get t)) = s'.env := by
      rw [← h1]
      simp [S.get, hlt]
    exact ⟨g, by rw [e]; exact h, hrest⟩

theorem Rel.gotsFrom {vs0 : List Arg} : ∀ (rest : List Arg) (pre : List Arg) (s' : S) (g : Gh), vs0 = pre ++ rest → Rel g0 w0 g s' a w → Pubd s s' →
    (∀ ar ∈ rest, exc (ar.raw s) = true → ∃ t, ar = .slot t) →
    ∃ g' s'', s'' = { s' with env := wback vs0 s'.env (pubsFrom pre.length (rest.map (Arg.raw s))) } ∧ Rel g0 w0 g' s'' a w ∧ Pubd s s'' ∧
      (∀ t, .slot t ∈ rest → exc (s.get t) = true → s''.get t = Sh.pub (s.get t)) ∧ ∀ t, s'.get t = Sh.pub (s.get t) → s''.get t = Sh.pub (s.get t)
  | [], pre, s', g, _, h, hp, _ => ⟨g, s', by simp [pubsFrom, wback], h, hp, fun t hm => by simp at hm, fun _ h => h⟩
  | ar :: rest, pre, s', g, hv, h, hp, hs => by
    have hpre : vs0 = (pre ++ [ar]) ++ rest := by rw [hv]; simp
    have hlen : (pre ++ [ar]).length = pre.length + 1 := by simp
    by_cases he : exc (ar.raw s) = true
    · obtain ⟨t, rfl⟩ := hs ar (by simp) he
      simp only [Arg.raw] at he
      obtain ⟨g', hR, hP, hg, hk⟩ := h.publish hp he
      have ih := Rel.gotsFrom rest (pre ++ [.slot t]) _ g' hpre hR hP (fun ar hm => hs ar (by simp [hm]))
      have e1 : vs0[pre.length]? = some (.slot t) := by rw [hv]; simp
      rw [hlen] at ih
      obtain ⟨g'', s'', k1, k2, k3, k4, k5⟩ := ih
      refine ⟨g'', s'', ?_, k2, k3, fun t' hm he' => ?_, fun t' h' => k5 t' (hk t' h')⟩
      · simp only [List.map_cons, pubsFrom, Arg.raw, he, if_true, wback, e1]
        exact k1
      · rcases List.mem_cons.1 hm with e | hm
        · cases e; exact k5 t hg
        · exact k4 t' hm he'
    · have ih := Rel.gotsFrom rest (pre ++ [ar]) s' g hpre h hp (fun ar hm => hs ar (by simp [hm]))
      rw [hlen] at ih
      obtain ⟨g'', s'', k1, k2, k3, k4, k5⟩ := ih
      refine ⟨g'', s'', ?_, k2, k3, fun t' hm he' => ?_, k5⟩
      · simp only [List.map_cons, pubsFrom, he, Bool.false_eq_true, if_false]
        exact k1
      · rcases List.mem_cons.1 hm with e | hm
        · subst e; exact absurd he' he
        · exact k4 t' hm he'

/-- What is handed over of a row of operands, once they are published. -/
theorem Rel.gots (h : Rel g0 w0 g s a w) {vs : List Arg} {xs : List Operand} (hl : vs.length = xs.length) (hx : ∀ i (h : i < vs.length) (h' : i < xs.length), AOk g w s a (xs[i]'h') (vs[i]'h)) :
    ∃ g', Rel g0 w0 g' { s with env := wback vs s.env (pubs (vs.map (Arg.raw s))) } a w ∧ ∀ i (h : i < vs.length) (h' : i < xs.length), V g' w none (a.eval (xs[i]'h')) (Sh.got ((vs[i]'h).raw s)) := by
  obtain ⟨g', s'', k1, k2, k3, k4, _⟩ := Rel.gotsFrom (vs0 := vs) vs [] s g rfl h (Pubd.refl s) (fun ar hm he => by
    obtain ⟨i, hi, rfl⟩ := List.getElem_of_mem hm
    exact (hx i hi (by omega)).flg_slot (exc_flg he))
  have e : s'' = { s with env := wback vs s.env (pubs (vs.map (Arg.raw s))) } := by rw [k1]; rfl
  refine ⟨g', e ▸ k2, fun i hi hi' => ?_⟩
  have hA := (hx i hi hi')
  generalize xs[i] = x at hA
  cases har : vs[i] with
  | lit v =>
    rw [har] at hA
    have hv := hA.lit v rfl g' w none
    simp only [Arg.raw]
    have hne : exc v = false := by
      rcases hb : exc v with _ | _
      · rfl
      · obtain ⟨t, ht⟩ := hA.flg_slot (exc_flg hb); cases ht
    rw [got_ro hne]
    exact hv.ro none
  | slot t =>
    rw [har] at hA
    simp only [Arg.raw]
    rw [hA.eval t rfl]
    have hv := k2.env.get t
    by_cases he : exc (s.get t) = true
    · rw [k4 t (by rw [← har]; exact List.getElem_mem hi) he] at hv
      obtain ⟨ys, n, es, hb⟩ := exc_inv he
      rw [hb] at hv ⊢
      exact hv.ro1 none
    · have he' : exc (s.get t) = false := by simpa using he
      rw [got_ro he']
      rcases k3.get t with h1 | ⟨h1, _⟩
      · rw [h1] at hv; exact hv.ro none
      · exact absurd h1 he

end
end Go.Sh
