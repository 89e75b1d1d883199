/-
  The shadow machine, part Y: functions.
-/
import Derived.Test.YtihhaeklacphbaaDoorShX
set_option linter.unusedSimpArgs false
set_option linter.unusedVariables false
namespace Go.Sh

/-- What a result is. -/
def retV (s : S) : RV → Option SV
  | .tmp t => some (s.get t)
  | .cell p n agg => pv s.st (.load n agg) [s.get p]

def retOf (res : List RV) (s : S) : Option SV :=
  match res with
  | [x] => retV s x
  | _ => (res.mapM (retV s)).map .tup

/-- A function's body, from its arguments to its result. -/
def swpF (O : Orc) (sf : SF) (args : List SV) (st : List Ob) (R : SV → List Ob → Prop) : Prop :=
  swp O sf.body (fun e s => match e with
    | .exit _ | .goto _ => False
    | _ => ∃ r st', retOf sf.res s = some r ∧ Trim st.length s.st st' [r] ∧ R r st') { env := args ++ List.replicate (sf.nt - args.length) .undef, st }

def posT : List RV → Nat → Nat → Option Nat
  | [], _, _ => none
  | .tmp u :: r, k, t => if u = t then some k else posT r (k + 1) t
  | .cell _ _ _ :: r, k, t => posT r (k + 1) t

theorem mem_tmps (t : Nat) : ∀ (res : List RV), .tmp t ∈ res → t ∈ tmpsOf res
  | [], h => by cases h
  | .tmp u :: r, h => by
    rcases List.mem_cons.1 h with e | h
    · cases e; simp [tmpsOf]
    · simp only [tmpsOf]; exact List.mem_cons_of_mem _ (mem_tmps t r h)
  | .cell _ _ _ :: r, h => by
    rcases List.mem_cons.1 h with e | h
    · cases e
    · simp only [tmpsOf]; exact mem_tmps t r h

theorem posT_some (t : Nat) : ∀ (res : List RV) (k i : Nat), (tmpsOf res).Nodup → res[i]? = some (.tmp t) → posT res k t = some (k + i)
  | [], _, _, _, h => by simp at h
  | .tmp u :: r, k, 0, _, h => by
    simp only [List.getElem?_cons_zero, Option.some.injEq, RV.tmp.injEq] at h
    simp [posT, h]
  | .tmp u :: r, k, i + 1, hn, h => by
    simp only [List.getElem?_cons_succ] at h
    simp only [tmpsOf, List.nodup_cons] at hn
    have hm : t ∈ tmpsOf r := mem_tmps t r (List.mem_of_getElem? h)
    have hut : ¬ u = t := by rintro rfl; exact hn.1 hm
    simp only [posT]
    rw [if_neg hut, posT_some t r (k + 1) i hn.2 h]
    congr 1; omega
  | .cell _ _ _ :: r, k, 0, _, h => by simp at h
  | .cell _ _ _ :: r, k, i + 1, hn, h => by
    simp only [List.getElem?_cons_succ] at h
    simp only [tmpsOf] at hn
    simp only [posT]
    rw [posT_some t r (k + 1) i hn h]
    congr 1; omega

section
variable {P : Program} {O : Orc} {g0 : Gh} {w0 : World} {g : Gh} {w : World} {s : S} {a : Act}

theorem cRes_len : ∀ (rs : List ResultVar) (res : List RV), cRes P rs = some res → res.length = rs.length
  | [], res, h => by simp [cRes] at h; subst h; rfl
  | .tmp t :: r, res, h => by
    simp only [cRes, Option.map_eq_some_iff] at h
    obtain ⟨l, hl, rfl⟩ := h
    simp [cRes_len r l hl]
  | .cell p t :: r, res, h => by
    simp only [cRes, Option.bind_eq_bind, Option.bind_eq_some_iff, Option.some.injEq] at h
    obtain ⟨n, _, l, hl, rfl⟩ := h
    simp [cRes_len r l hl]

/-- One result after the other, as the model reads them. -/
theorem results_run (h : Rel g0 w0 g s a w) {φ : Owner → Owner} (hφc : ∀ q, q.root = .outer → φ q = q) (mk : Nat → Option Owner) : ∀ (rs : List ResultVar) (res : List RV) (k : Nat) (vs : List SV),
    cRes P rs = some res → res.mapM (retV s) = some vs → (∀ i t, res[i]? = some (.tmp t) → ∀ p, φ ⟨.slot t, p⟩ = (match mk (k + i) with | some q => ⟨q.root, p ++ q.path⟩ | none => ⟨.outer, p⟩)) → (∀ i, ∃ q, mk i = some q) →
    ∃ rvs : List Value, (rs.mapM fun r => (match r with | .tmp t => pure (a.tmps.getD t Go.undef) | .cell p t => do loadVar t (← asAddr (a.tmps.getD p Go.undef)) : Sem Value)).run P w = .ok rvs w ∧ rvs.length = vs.length ∧
      ∀ i (h1 : i < rvs.length) (h2 : i < vs.length), V (g.re φ) w (mk (k + i)) (rvs[i]'h1) (vs[i]'h2)
  | [], res, k, vs, hc, hv, _, _ => by
    simp only [cRes, Option.some.injEq] at hc
    subst hc
    simp only [List.mapM_nil, Option.pure_def, Option.some.injEq] at hv
    subst hv
    exact ⟨[], by simp, rfl, fun i h => by simp at h⟩
  | .tmp t :: rs, res, k, vs, hc, hv, hpos, hmk => by
    simp only [cRes, Option.map_eq_some_iff] at hc
    obtain ⟨l, hl, rfl⟩ := hc
    simp only [List.mapM_cons, Option.bind_eq_bind, Option.bind_eq_some_iff, Option.pure_def, Option.some.injEq, retV] at hv
    obtain ⟨v, rfl, vs', hv', rfl⟩ := hv
    obtain ⟨rvs, hr, hlen, hV⟩ := results_run h hφc mk rs l (k + 1) vs' hl hv' (fun i t' hi p => by have := hpos (i + 1) t' (by simpa using hi) p; rwa [show k + (i + 1) = k + 1 + i by omega] at this) hmk
    refine ⟨a.tmps.getD t Go.undef :: rvs, ?_, by simp [hlen], fun i h1 h2 => ?_⟩
    · rw [List.mapM_cons, Sem.run_bind, Sem.run_pure, Result.andThen_ok, Sem.run_bind, hr]
      rfl
    · cases i with
      | zero =>
        have hv0 := h.env.get t
        obtain ⟨q, hq⟩ := hmk k
        have := hpos 0 t (by simp)
        simp only [Nat.add_zero, hq] at this ⊢
        refine hv0.relabel _ _ ?_
        intro q' hq'
        cases hq'
        exact ⟨q, rfl, fun p => by simpa using this p⟩
      | succ i =>
        have := hV i (by simpa using h1) (by simpa using h2)
        rw [show k + (i + 1) = k + 1 + i by omega]
        exact this
  | .cell p t :: rs, res, k, vs, hc, hv, hpos, hmk => by
    simp only [cRes, Option.bind_eq_bind, Option.bind_eq_some_iff, Option.some.injEq] at hc
    obtain ⟨n, hsz, l, hl, rfl⟩ := hc
    simp only [List.mapM_cons, Option.bind_eq_bind, Option.bind_eq_some_iff, Option.pure_def, Option.some.injEq, retV] at hv
    obtain ⟨v, hv0, vs', hv', rfl⟩ := hv
    obtain ⟨rvs, hr, hlen, hV⟩ := results_run h hφc mk rs l (k + 1) vs' hl hv' (fun i t' hi p => by have := hpos (i + 1) t' (by simpa using hi) p; rwa [show k + (i + 1) = k + 1 + i by omega] at this) hmk
    obtain ⟨d, hd⟩ := sz_und hsz
    have hg := h.env.get p
    obtain ⟨rv, hrun, hrv⟩ := load_run h.inv hd hsz hg hv0
    have hptr : ∃ ad, a.eval (.tmp p) = .pointer (some ad) := by
      generalize s.get p = sv at hg hv0
      generalize a.eval (.tmp p) = pv0 at hg
      cases hg <;> simp [pv] at hv0
      · exact ⟨_, rfl⟩
      · exact ⟨_, rfl⟩
    obtain ⟨ad, had⟩ := hptr
    rw [had] at hrun
    have had' : a.tmps.getD p Go.undef = .pointer (some ad) := had
    refine ⟨rv :: rvs, ?_, by simp [hlen], fun i h1 h2 => ?_⟩
    · have hl2 : (loadVar t ad).run P w = .ok rv w := by simpa [Instr.loadAt, Instr.sureAddr] using hrun
      have hasA : (asAddr (.pointer (some ad))).run P w = .ok ad w := rfl
      rw [List.mapM_cons, Sem.run_bind, Sem.run_bind, had', hasA, Result.andThen_ok, hl2, Result.andThen_ok, Sem.run_bind, hr]
      rfl
    · cases i with
      | zero => exact (hrv.relabel_same φ (by intro q hq; cases hq)).free rfl _
      | succ i =>
        have := hV i (by simpa using h1) (by simpa using h2)
        rw [show k + (i + 1) = k + 1 + i by omega]
        exact this

/-- Who owns what a function hands back. -/
def retφ (res : List RV) : Owner → Owner := fun q =>
  match q.root with
  | .slot t => match posT res 0 t with
    | some i => if res.length = 1 then ⟨.ret, q.path⟩ else ⟨.ret, q.path ++ [i]⟩
    | none => ⟨.outer, q.path⟩
  | .ret => ⟨.outer, q.path⟩
  | _ => q

theorem func_ok (hS : Sound P O) {f : FuncId} {sf : SF} (hf : cFunc P f = some sf) {args : List SV} {st : List Ob} {R : SV → List Ob → Prop} (hq : swpF O sf args st R) (hcl : Clean g) (hI : Inv g w st) {vs : List Value}
    (hv : vs.length = args.length ∧ ∀ i (h : i < vs.length) (h' : i < args.length), V g w none (vs[i]'h) (args[i]'h')) (hle : args.length ≤ sf.nt) :
    Calls P f vs.toArray w fun e w' => ∃ r st' rv g', R r st' ∧ e = .returned rv ∧ Inv g' w' st' ∧ V g' w' retO rv r ∧ Fr g w g' w' ∧ ∀ b q, g'.ow b = some q → ∀ t, q.root ≠ .slot t := by
  simp only [cFunc, Option.bind_eq_bind, Option.bind_eq_some_iff] at hf
  obtain ⟨fn, hfn, b, hb, res, hres, hf⟩ := hf
  split at hf
  · rename_i hnd
    simp only [Option.bind_eq_some_iff, Option.some.injEq] at hf
    obtain ⟨body, hbody, rfl⟩ := hf
    refine calls_of_wp hfn hb ?_
    have hR : Rel g w g { env := args ++ List.replicate (fn.ntmps - args.length) .undef, st } { tmps := vs.toArray ++ Array.replicate (fn.ntmps - vs.toArray.size) Go.undef, defers := [] } w := by
      refine ⟨Fr.refl g w, hI, ⟨by simp [hv.1], fun t h1 h2 => ?_⟩, rfl⟩
      simp only [List.length_append, List.length_replicate] at h2
      by_cases ht : t < vs.length
      · rw [Array.getElem_append_left (by simpa using ht), List.getElem_append_left (by have := hv.1; omega)]
        simpa using (hv.2 t ht (by have := hv.1; omega)).free rfl _
      · rw [List.getElem_append_right (by have := hv.1; omega)]
        simp only [List.getElem_replicate]
        exact .undef _ _
    refine wp_mono (code_ok hS b body _ _ g _ w hbody hq hR (by simp; simp at hle; omega)) ?_
    have fin0 : ∀ (R : SV → List Ob → Prop) (g' : Gh) (s' : S) (a' : Act) (w' : World), Rel g w g' s' a' w' → (∃ r, retOf res s' = some r ∧ R r s'.st) →
        a'.defers = [] ∧ ∃ v, (results fn a'.tmps).run P w' = .ok v w' ∧ ∃ r st' rv g', R r st' ∧ Ending.returned v = .returned rv ∧ Inv g' w' st' ∧ V g' w' retO rv r ∧ Fr g w g' w' ∧ ∀ b q, g'.ow b = some q → ∀ t, q.root ≠ .slot t := by
      intro R g' s' a' w' hR' ⟨r, hr, hRr⟩
      refine ⟨hR'.defers, ?_⟩
      have hlen := cRes_len _ _ hres
      have hfr : Fr g' w' (g'.re (retφ res)) w' := by
        refine ⟨g'.re_st w' _, fun b _ ht => ⟨?_, rfl, rfl⟩⟩
        show (g'.ow b).map _ = g'.ow b
        cases hob : g'.ow b with
        | none => rfl
        | some q =>
          have : q.root = .outer := Classical.byContradiction fun hn => ht ⟨q, hob, hn⟩
          simp only [Option.map_some, retφ, this]
      have hI' : Inv (g'.re (retφ res)) w' s'.st := hR'.inv.re _ (fun _ _ _ => rfl) (fun _ => rfl)
      have hns : ∀ b q, (g'.re (retφ res)).ow b = some q → ∀ t, q.root ≠ .slot t := by
        intro b q hq t ht
        simp only [Gh.re, Option.map_eq_some_iff] at hq
        obtain ⟨q0, _, rfl⟩ := hq
        unfold retφ at ht
        split at ht
        · split at ht
          · split at ht <;> cases ht
          · cases ht
        · cases ht
        · rename_i h1 _; exact h1 t ht
      let mk : Nat → Option Owner := fun i => if res.length = 1 then some ⟨.ret, []⟩ else some ⟨.ret, [i]⟩
      have hpos : ∀ i t, res[i]? = some (.tmp t) → ∀ p, retφ res ⟨.slot t, p⟩ = (match mk (0 + i) with | some q => ⟨q.root, p ++ q.path⟩ | none => ⟨.outer, p⟩) := by
        intro i t hi p
        simp only [retφ, posT_some t res 0 i hnd hi, mk, Nat.zero_add]
        split <;> simp
      have hrun : ∀ vs : List SV, res.mapM (retV s') = some vs → ∃ rvs : List Value, (fn.results.mapM fun r => (match r with | .tmp t => pure (a'.tmps.getD t Go.undef) | .cell p t => do loadVar t (← asAddr (a'.tmps.getD p Go.undef)) : Sem Value)).run P w' = .ok rvs.toArray w' ∧ rvs.length = vs.length ∧ ∀ i (h1 : i < rvs.length) (h2 : i < vs.length), V (g'.re (retφ res)) w' (mk (0 + i)) (rvs[i]'h1) (vs[i]'h2) := by
        intro vs hvs
        obtain ⟨rvs, h1, h2, h3⟩ := results_run hR' (φ := retφ res) (fun q hq => by simp [retφ, hq]) mk fn.results.toList res 0 vs hres hvs hpos (fun i => by simp only [mk]; split <;> exact ⟨_, rfl⟩)
        refine ⟨rvs, ?_, h2, h3⟩
        rw [← Array.toArray_toList (xs := fn.results), List.mapM_toArray]
        generalize fn.results.toList = l at h1
        rw [Sem.run_map, h1]
        rfl
      by_cases h1 : res.length = 1
      · obtain ⟨x, rfl⟩ := List.length_eq_one_iff.1 h1
        have hrv : [x].mapM (retV s') = some [r] := by
          simp only [retOf] at hr
          simp [hr]
        obtain ⟨rvs, h2, h3, h4⟩ := hrun [r] hrv
        obtain ⟨rv, rfl⟩ := List.length_eq_one_iff.1 (by simpa using h3)
        have h5 := h4 0 (by simp) (by simp)
        simp only [List.getElem_cons_zero] at h5
        refine ⟨rv, ?_, r, s'.st, rv, _, hRr, rfl, hI', ?_, hR'.fr.trans hfr, hns⟩
        · unfold results
          rw [Sem.run_bind]
          erw [h2]
          simp
        · simpa [mk, retO] using h5
      · have hrv : ∃ vs, res.mapM (retV s') = some vs ∧ r = .tup vs := by
          unfold retOf at hr
          split at hr
          · simp at h1
          · simp only [Option.map_eq_some_iff] at hr
            obtain ⟨vs, hvs, rfl⟩ := hr
            exact ⟨vs, hvs, rfl⟩
        obtain ⟨vs, hvs, rfl⟩ := hrv
        obtain ⟨rvs, h2, h3, h4⟩ := hrun vs hvs
        have hvl := (mapM_get hvs).1
        refine ⟨.tuple rvs.toArray, ?_, .tup vs, s'.st, .tuple rvs.toArray, _, hRr, rfl, hI', ?_, hR'.fr.trans hfr, hns⟩
        · unfold results
          rw [Sem.run_bind]
          erw [h2]
          have : ¬ rvs.length = 1 := by omega
          simp [this]
        · refine .tup _ _ _ (by simpa using h3) fun i hi hi' => ?_
          have := h4 i (by simpa using hi) hi'
          simpa [mk, h1, retO, Owner.sub] using this
    have fin : ∀ (g' : Gh) (s' : S) (a' : Act) (w' : World), Rel g w g' s' a' w' → (∃ r st', retOf res s' = some r ∧ Trim st.length s'.st st' [r] ∧ R r st') →
        a'.defers = [] ∧ ∃ v, (results fn a'.tmps).run P w' = .ok v w' ∧ ∃ r st' rv g', R r st' ∧ Ending.returned v = .returned rv ∧ Inv g' w' st' ∧ V g' w' retO rv r ∧ Fr g w g' w' ∧ ∀ b q, g'.ow b = some q → ∀ t, q.root ≠ .slot t := by
      rintro g' s' a' w' hR' ⟨r, st', hr, htr, hRr⟩
      obtain ⟨h1, v, h2, r', st'', rv, g'', ⟨rfl, rfl⟩, h4, h5, h6, h7, h8⟩ := fin0 (fun r' st'' => r' = r ∧ st'' = s'.st) g' s' a' w' hR' ⟨r, hr, rfl, rfl⟩
      refine ⟨h1, v, h2, r', st', rv, ?_⟩
      rcases htr with rfl | ⟨hk1, hk2, hk3, hk4⟩
      · exact ⟨g'', hRr, h4, h5, h6, h7, h8⟩
      · refine ⟨g''.trim st'.length, hRr, h4, h5.trim hk2 hk4, h6.trim (by simpa [idOks] using hk3) ?_, h7.trim (by rw [hI.len]; exact hk1), fun b q hq t ht => ?_⟩
        · intro q hq p; cases hq; rfl
        · simp only [Gh.trim, Gh.cut, Gh.re, Option.map_eq_some_iff] at hq
          obtain ⟨q0, hq0, rfl⟩ := hq
          unfold cutφ at ht
          split at ht
          · split at ht
            · exact h8 b q0 hq0 t ht
            · cases ht
          · split at ht
            · exact h8 b q0 hq0 t ht
            · cases ht
          · exact h8 b q0 hq0 t ht
    rintro e a' w' ⟨g', s', hR', _, hm⟩
    cases e with
    | normal => exact fin g' s' a' w' hR' hm
    | ret => exact fin g' s' a' w' hR' hm
    | exit id => exact hm.elim
    | goto l => exact hm.elim
    | panic ch => exact hm.elim
    | outgrown => exact hm.elim
  · cases hf

end
end Go.Sh
