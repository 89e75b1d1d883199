/-
  The shadow machine, part X: rows of operations, the code.
-/
import Derived.Test.YtihhaeklacphbaaDoorShW
import Derived.Test.YtihhaeklacphbaaDoorShV
import Derived.Test.YtihhaeklacphbaaDoorShP
import Derived.Orders
import Derived.ScopeJumps
set_option linter.unusedSimpArgs false
set_option linter.unusedVariables false
namespace Go.Sh

section
variable {P : Program} {O : Orc} {g0 : Gh} {w0 : World} {g : Gh} {w : World} {s : S} {a : Act} {o : Oper} {σ : Sg} {res : List Nat} {c : Opc} {as : List Arg}

theorem eval_put (a : Act) (d : Nat) (rv : Value) (t : Nat) : (a.put (some d) rv).eval (.tmp t) = if t = d ∧ d < a.tmps.size then rv else a.eval (.tmp t) := by
  simp only [Act.put, Act.eval, Array.getD_eq_getD_getElem?]
  rw [Array.getElem?_setIfInBounds]
  by_cases h : d = t
  · subst h
    by_cases h2 : d < a.tmps.size
    · simp [h2]
    · simp [h2]
  · rw [if_neg h, if_neg (fun e => h e.1.symm)]

theorem Sub.nil (a : Act) : Sub [] a := fun _ _ h => by cases h

theorem Sub.drop (h : Sub σ a) (d : Nat) (rv : Value) : Sub (drop σ d) (a.put (some d) rv) := by
  intro t y hm
  simp only [Sh.drop, List.mem_filter, Bool.and_eq_true, bne_iff_ne, ne_eq] at hm
  obtain ⟨hm, h1, h2⟩ := hm
  rw [eval_put, eval_put, if_neg (fun e => h1 e.1), if_neg (fun e => h2 e.1)]
  exact h t y hm

theorem Sub.next {nt : Nat} (h : Sub σ a) (hs : a.tmps.size = nt) {rv : Value} (hm : ∀ x, o.op = .move x → o.guard = none → rv = a.eval x) : Sub (nextSg nt σ o) (a.put o.dst rv) := by
  unfold nextSg
  split
  · rename_i hd; rw [hd]; exact h
  · rename_i d hd
    rw [hd]
    split
    · rename_i x ho hg
      split
      · exact h.drop d rv
      · rename_i hc
        have hd1 : d ≠ (σ.lookup x).getD x := fun e => hc (.inl e)
        have hd2 : d < a.tmps.size := by rw [hs]; exact Nat.lt_of_not_le fun e => hc (.inr e)
        intro t y hmem
        rcases List.mem_cons.1 hmem with e | hmem
        · simp only [Prod.mk.injEq] at e
          obtain ⟨rfl, rfl⟩ := e
          rw [eval_put, eval_put, if_pos ⟨rfl, hd2⟩, if_neg (fun e => hd1 e.1.symm)]
          rw [hm (.tmp x) ho hg]
          cases hl : σ.lookup x with
          | none => rfl
          | some z => exact h x z (lookup_mem hl)
        · exact h.drop d rv t y hmem
    · exact h.drop d rv

theorem put_len (s : S) (d : Option Nat) (v : SV) : (s.put d v).env.length = s.env.length := by
  cases d <;> simp [S.put]

theorem wback_len (as : List Arg) : ∀ (wb : List (Nat × SV)) (env : List SV), (wback as env wb).length = env.length
  | [], _ => rfl
  | (j, v) :: r, env => by
    rw [wback, wback_len as r]
    split <;> simp

theorem app_len (s : S) (d : Option Nat) (as : List Arg) (r : SV) (wb : List (Nat × SV)) (st' : List Ob) : (S.put { env := wback as s.env wb, st := st' } d r).env.length = s.env.length := by
  rw [put_len]; exact wback_len _ _ _

theorem rel_size (h : Rel g0 w0 g s a w) : a.tmps.size = s.env.length := h.env.size

/-- What the state behind a piece of code is held to. -/
def Pst (g0 : Gh) (w0 : World) (nt : Nat) (Q : Ex → S → Prop) : Exit → Act → World → Prop := fun e a w =>
  ∃ g s, Rel g0 w0 g s a w ∧ s.env.length = nt ∧ match e with
    | .normal => Q .normal s
    | .exit id => Q (.exit id) s
    | .ret => Q .ret s
    | .goto l => Q (.goto l) s
    | _ => False

/-- One operation. -/
theorem one_ok (hS : Sound P O) {ops : Array Oper} {i : Nat} {gd : Option (Nat × Bool)} {K : S → Prop} {Q : Exit → Act → World → Prop} (hok : ops[i]? = some o) (hop : COk P res σ o c as) (hgd : guardOf ops o = some gd)
    (hd : ∀ t, .slot t ∈ as → o.dst ≠ some t) (hcl : isCall c = true → opCall o.op = true) (hr : stepK O { d := o.dst, c, a := as, g := gd } K s) (h : Rel g0 w0 g s a w) (hσ : Sub σ a) {K' : Act → World → Prop}
    (hK : ∀ rv g' s' w', Rel g0 w0 g' s' (a.put o.dst rv) w' → s'.env.length = s.env.length → K s' → (∀ x, o.op = .move x → o.guard = none → rv = a.eval x) → K' (a.put o.dst rv) w') : wpOp P ops Q i K' a w := by
  unfold wpOp
  simp only [hok]
  have hgw : Region.wanted o (yielded ops a.tmps) = wanted s { d := o.dst, c, a := as, g := gd } := by
    obtain ⟨hkn, _⟩ := hr
    unfold guardOf at hgd
    cases hg : o.guard with
    | none =>
      rw [hg] at hgd
      simp only [Option.some.injEq] at hgd
      subst hgd
      simp [Region.wanted, hg, wanted]
    | some p =>
      obtain ⟨j, b⟩ := p
      rw [hg] at hgd
      simp only [Option.map_eq_some_iff] at hgd
      obtain ⟨t, ht, rfl⟩ := hgd
      simp only [known] at hkn
      have hv := h.env.get t
      simp only [Region.wanted, hg, yielded, ht, Option.bind_some, wanted]
      cases hgt : s.get t with
      | bool x =>
        rw [hgt] at hkn hv
        obtain ⟨hlt, _⟩ := get_lt hgt (by simp)
        have hlt' : t < a.tmps.size := by rw [h.env.size]; exact hlt
        have hb := hv.bool_inv
        simp only [Act.eval, Array.getD_eq_getD_getElem?, Array.getElem?_eq_getElem hlt', Option.getD_some] at hb
        rw [Array.getElem?_eq_getElem hlt', hb]
        cases x <;> cases b <;> rfl
      | tup xs =>
        rw [hgt] at hkn hv
        obtain ⟨hlt, _⟩ := get_lt hgt (by simp)
        have hlt' : t < a.tmps.size := by rw [h.env.size]; exact hlt
        obtain ⟨cs, hb⟩ : ∃ cs, a.eval (.tmp t) = .tuple cs := by
          generalize a.eval (.tmp t) = y at hv
          cases hv
          exact ⟨_, rfl⟩
        simp only [Act.eval, Array.getD_eq_getD_getElem?, Array.getElem?_eq_getElem hlt', Option.getD_some] at hb
        rw [Array.getElem?_eq_getElem hlt', hb]
        cases b <;> rfl
      | _ => rw [hgt] at hkn; cases hkn
  rw [hgw]
  obtain ⟨_, hr⟩ := hr
  split
  · rename_i hw
    rw [if_pos hw] at hr
    obtain ⟨r, wb, st', hstep, hr⟩ := hr
    left
    exact op_wp hS h hσ hop hd hcl hstep fun rv g' w' hR hmv => hK rv g' _ w' hR (app_len s o.dst as r wb st') hr fun x hx _ => hmv x hx
  · rename_i hw
    rw [if_neg hw] at hr
    have hR : Rel g0 w0 g (s.put o.dst (.tup [])) (a.put o.dst Go.undef) w := h.put fun _ _ => .tup _ #[] [] rfl (fun i h => by simp at h)
    have hg : o.guard ≠ none := by
      intro e
      apply hw
      rw [← hgw]
      simp [Region.wanted, e]
    exact hK _ g _ w hR (put_len s o.dst (.tup [])) hr fun x _ e => absurd e hg

theorem chk_spec {as : List Arg} (h1 : as.any (fun | .slot t => o.dst == some t | _ => false) = false) : ∀ t, .slot t ∈ as → o.dst ≠ some t := by
  intro t ht e
  have := List.any_eq_false.1 h1 _ ht
  simp [e] at this

theorem chk_call (h2 : (isCall c && !opCall o.op) = false) : isCall c = true → opCall o.op = true := by
  intro h1
  rw [h1] at h2
  simpa using h2

theorem row_ok (hS : Sound P O) {nt : Nat} {ops : Array Oper} {Q : Ex → S → Prop} : ∀ (os : List Oper) (k : Nat) (σ : Sg) (sis : List SI) (s : S) (g : Gh) (a : Act) (w : World), ops.toList.drop k = os → cRow P res nt ops σ os = some sis → srun O sis (Q .normal) s → Rel g0 w0 g s a w → Sub σ a → s.env.length = nt →
    wpOps P ops (Pst g0 w0 nt Q) (List.range' k os.length) a w
  | [], k, σ, sis, s, g, a, w, hk, hc, hr, h, hσ, hl => by
    simp only [cRow, Option.some.injEq] at hc
    subst hc
    exact ⟨g, s, h, hl, hr⟩
  | o :: os, k, σ, sis, s, g, a, w, hk, hc, hr, h, hσ, hl => by
    have hok : ops[k]? = some o := by
      have := congrArg (fun l => l[0]?) hk
      simpa using this
    have hk' : ops.toList.drop (k + 1) = os := by
      have := congrArg List.tail hk
      simpa using this
    simp only [cRow, Option.bind_eq_bind, Option.bind_eq_some_iff] at hc
    obtain ⟨⟨c, as⟩, hop, gd, hgd, hc⟩ := hc
    simp only at hc
    split at hc
    · cases hc
    · rename_i hchk
      simp only [Option.bind_eq_some_iff, Option.some.injEq] at hc
      obtain ⟨sis', hrest, rfl⟩ := hc
      simp only [Bool.or_eq_true, not_or, Bool.not_eq_true] at hchk
      obtain ⟨hchk1, hchk2⟩ := hchk
      rw [List.length_cons, List.range'_succ, wpOps_cons]
      have hsz : a.tmps.size = nt := by rw [h.env.size]; exact hl
      exact one_ok hS hok (.of hop) hgd (chk_spec hchk1) (chk_call hchk2) hr h hσ fun rv g' s' w' hR hl' hK hmv =>
        row_ok hS os (k + 1) _ sis' s' g' _ w' hk' hrest hK hR (hσ.next hsz hmv) (hl'.trans hl)

/-! A row whose order is drawn. -/

theorem goodMv_spec {nt : Nat} {ops : Array Oper} {k d x : Nat} (h : goodMv nt ops k = some (d, x)) : ∃ o, ops[k]? = some o ∧ o.op = .move (.tmp x) ∧ o.guard = none ∧ o.dst = some d ∧ d ≠ x ∧ d < nt ∧ (∀ j o', ops[j]? = some o' → o'.dst = some d → j = k) ∧ (∀ j o', ops[j]? = some o' → o'.dst = some x → j ∈ edgesOf o) := by
  unfold goodMv at h
  split at h
  · rename_i o ho
    split at h
    · rename_i x' d' hop hg hd
      split at h
      · rename_i hc
        simp only [Option.some.injEq, Prod.mk.injEq] at h
        obtain ⟨rfl, rfl⟩ := h
        obtain ⟨h1, h2, h3, h4⟩ := hc
        have hw : ∀ t j o', ops[j]? = some o' → o'.dst = some t → j ∈ writersOf ops t := by
          intro t j o' hj hd'
          have : j < ops.size := (Array.getElem?_eq_some_iff.1 hj).1
          exact List.mem_filter.2 ⟨by simpa using this, by simp [hj, hd']⟩
        refine ⟨o, ho, hop, hg, hd, h1, h2, fun j o' hj hd' => ?_, fun j o' hj hd' => ?_⟩
        · have := hw _ j o' hj hd'
          rw [h3] at this
          simpa using this
        · have := List.all_eq_true.1 h4 _ (hw _ j o' hj hd')
          simpa using this
      · cases h
    · cases h
  · cases h

/-- What is known where some of the operations are done: those that 'L' tells. -/
structure Done (nt : Nat) (ops : Array Oper) (L : Nat → Prop) (a : Act) : Prop where
  size : a.tmps.size = nt
  closed : ∀ k o, L k → ops[k]? = some o → ∀ e ∈ edgesOf o, L e
  mv : ∀ k d x, L k → goodMv nt ops k = some (d, x) → a.eval (.tmp d) = a.eval (.tmp x)

theorem near_done {nt : Nat} {ops : Array Oper} {L : Nat → Prop} (h : Done nt ops L a) : ∀ (n j : Nat) (o : Oper), ops[j]? = some o → (∀ e ∈ edgesOf o, L e) → ∀ k ∈ near ops n j, L k
  | 0, _, _, _, _, k, hk => by cases hk
  | n + 1, j, o, ho, he, k, hk => by
    simp only [near, ho, List.mem_flatMap] at hk
    obtain ⟨e, h1, h2⟩ := hk
    rcases List.mem_cons.1 h2 with rfl | h2
    · exact he _ h1
    · have hL := he e h1
      cases hoe : ops[e]? with
      | none =>
        cases n with
        | zero => cases h2
        | succ n => simp [near, hoe] at h2
      | some o' => exact near_done h n e o' hoe (h.closed e o' hL hoe) k h2

theorem Done.sub {nt : Nat} {ops : Array Oper} {L : Nat → Prop} (h : Done nt ops L a) {j : Nat} (ho : ops[j]? = some o) (he : ∀ e ∈ edgesOf o, L e) : Sub (sgD nt ops j) a := by
  intro t y hm
  obtain ⟨k, hk, hg⟩ := List.mem_filterMap.1 hm
  exact h.mv k t y (near_done h 3 j o ho he k hk) hg

theorem Done.next {nt : Nat} {ops : Array Oper} {L L' : Nat → Prop} (h : Done nt ops L a) {j : Nat} (ho : ops[j]? = some o) (he : ∀ e ∈ edgesOf o, L e) (hj : ¬ L j) (hL : ∀ k, L' k → L k ∨ k = j) (hL' : ∀ k, L k → L' k) {rv : Value} (hmv : ∀ x, o.op = .move x → o.guard = none → rv = a.eval x) : Done nt ops L' (a.put o.dst rv) := by
  refine ⟨?_, fun k o' hk ho' e hm => ?_, fun k d x hk hg => ?_⟩
  · rw [← h.size]; cases o.dst <;> simp [Act.put]
  · rcases hL k hk with h1 | rfl
    · exact hL' _ (h.closed k o' h1 ho' e hm)
    · rw [ho] at ho'; cases ho'; exact hL' _ (he e hm)
  · obtain ⟨o', ho', hop, hgu, hd, hne, hlt, h1, h2⟩ := goodMv_spec hg
    rcases hL k hk with hk | rfl
    · have e1 : o.dst ≠ some d := fun e => by
        have := h1 j o ho e
        rw [this] at hj; exact hj hk
      have e2 : o.dst ≠ some x := fun e => hj (h.closed k o' hk ho' j (h2 j o ho e))
      have := h.mv k d x hk hg
      cases hdd : o.dst with
      | none => exact this
      | some t =>
        rw [hdd] at e1 e2
        rw [eval_put, eval_put, if_neg (fun e => e1 (by rw [e.1])), if_neg (fun e => e2 (by rw [e.1]))]
        exact this
    · rw [ho] at ho'; cases ho'
      rw [hd, eval_put, eval_put, if_pos ⟨rfl, by rw [h.size]; exact hlt⟩, if_neg (fun e => hne e.1.symm)]
      exact hmv _ hop hgu

theorem stepK_toP {d : Option Nat} {c : Opc} {a : List Arg} {gd : Option (Nat × Bool)} {K : S → Prop} (h : stepK O ⟨d, toP P c, a, gd⟩ K s) : stepK O ⟨d, c, a, gd⟩ K s := by
  unfold toP at h
  split at h
  · rename_i f
    split at h
    · refine ⟨h.1, ?_⟩
      have h2 := h.2
      change (if wanted s ⟨d, .callp f, a, gd⟩ = true then _ else _)
      split
      · rename_i hw
        rw [if_pos hw] at h2
        obtain ⟨r, wb, st', ⟨⟨h3, h4⟩, rfl⟩, h5⟩ := h2
        exact ⟨r, wb, _, ⟨h3 _, h4⟩, h5⟩
      · rename_i hw
        rw [if_neg hw] at h2
        exact h2
    · exact h
  · exact h

theorem cOneD_spec {nt : Nat} {ops : Array Oper} {j : Nat} {d : DI} (h : cOneD P res nt ops j = some d) : ∃ o c as gd, ops[j]? = some o ∧ (∃ σ', (∀ a, Sub (sgD nt ops j) a → Sub σ' a) ∧ cOp P res σ' o = some (c, as)) ∧ guardOf ops o = some gd ∧ (∀ t, .slot t ∈ as → o.dst ≠ some t) ∧ (isCall c = true → opCall o.op = true) ∧ (∀ e ∈ edgesOf o, e < j) ∧ d = { i := j, op := { d := o.dst, c := toP P c, a := as, g := gd }, after := edgesOf o } := by
  simp only [cOneD, Option.bind_eq_bind, Option.bind_eq_some_iff] at h
  obtain ⟨o, ho, ⟨c', _⟩, _, ⟨c, as⟩, hop, gd, hgd, h⟩ := h
  simp only at h hop
  have hop' : ∃ σ', (∀ a, Sub (sgD nt ops j) a → Sub σ' a) ∧ cOp P res σ' o = some (c, as) := by
    refine ⟨_, fun a ha => ?_, hop⟩
    split
    · exact Sub.nil a
    · exact ha
  clear hop
  split at h
  · cases h
  · rename_i hchk
    simp only [Option.some.injEq] at h
    simp only [Bool.or_eq_true, not_or, Bool.not_eq_true, Bool.not_eq_false', List.all_eq_true, decide_eq_true_eq] at hchk
    obtain ⟨⟨h1, h2⟩, h3⟩ := hchk
    exact ⟨o, c, as, gd, ho, hop', hgd, chk_spec h1, chk_call h2, h3, h.symm⟩

theorem any_ok (hS : Sound P O) {nt : Nat} {ops : Array Oper} {Q : Ex → S → Prop} : ∀ (n : Nat) (l : List DI) (listed : Array Bool) (s : S) (g : Gh) (a : Act) (w : World), listed.size = ops.size → l.length ≤ n →
    (∀ d ∈ l, d.i < ops.size ∧ cOneD P res nt ops d.i = some d) → (∀ j, j < ops.size → (listed.getD j true = false ↔ ∃ d ∈ l, d.i = j)) → Done nt ops (fun k => listed.getD k false = true) a → s.env.length = nt →
    srunA O (Q .normal) n l s → Rel g0 w0 g s a w → wpAny P .any ops (Pst g0 w0 nt Q) n listed a w := by
  intro n
  induction n with
  | zero =>
    intro l listed s g a w hsz hl hd hc hD hlen hr h
    match l with
    | [] =>
      refine ⟨?_, g, s, h, hlen, hr⟩
      rw [List.eq_nil_iff_forall_not_mem]
      intro j hj
      obtain ⟨h1, o, ho, _⟩ := mem_ready.1 hj
      obtain ⟨d, hd, _⟩ := (hc j (Array.getElem?_eq_some_iff.1 ho).1).1 h1
      cases hd
    | _ :: _ => simp at hl
  | succ n ih =>
    intro l listed s g a w hsz hl hd hc hD hlen hr h
    have hgd : ∀ e : Nat, e < ops.size → (listed.getD e false = true ↔ ∀ x ∈ l, x.i ≠ e) := by
      intro e he
      have h1 : listed.getD e false = listed.getD e true := by simp [Array.getD, hsz, he]
      constructor
      · intro hx x hxl hxe
        have := (hc e he).2 ⟨x, hxl, hxe⟩
        rw [h1, this] at hx; cases hx
      · intro hx
        rw [h1]
        cases hb : listed.getD e true with
        | true => rfl
        | false => obtain ⟨d, h2, h3⟩ := (hc e he).1 hb; exact absurd h3 (hx d h2)
    have hrd : ∀ d ∈ l, readyD l d = true → d.i ∈ Region.ready .any ops listed := by
      intro d hdl hr
      obtain ⟨hi, hco⟩ := hd d hdl
      obtain ⟨o, c, as, gd, ho, hop, hgd', hch, hcall, hlt, hdd⟩ := cOneD_spec hco
      refine mem_ready.2 ⟨(hc d.i hi).2 ⟨d, hdl, rfl⟩, o, ho, fun e he hb => ?_⟩
      have hem : e.on ∈ edgesOf o := List.mem_map.2 ⟨e, List.mem_filter.2 ⟨by simpa using he, hb⟩, rfl⟩
      have hlt' := hlt _ hem
      refine (hgd e.on (by omega)).2 fun x hx => ?_
      have hda : d.after = edgesOf o := by rw [hdd]
      have := List.all_eq_true.1 hr e.on (by rw [hda]; exact hem)
      have := List.all_eq_true.1 this x hx
      simpa using this
    have hne : l ≠ [] → ∃ d ∈ l, readyD l d = true := by
      intro hl0
      have key : ∀ m, (∃ d ∈ l, d.i ≤ m) → ∃ d ∈ l, readyD l d = true := by
        intro m
        induction m using Nat.strongRecOn with
        | _ m ihm =>
          rintro ⟨d, hdl, hm⟩
          by_cases hr : readyD l d = true
          · exact ⟨d, hdl, hr⟩
          · have hr' : ∃ e ∈ d.after, ∃ x ∈ l, x.i = e := by
              simp only [readyD, List.all_eq_true, bne_iff_ne, ne_eq] at hr
              exact Classical.byContradiction fun hn => hr fun e he x hx hxe => hn ⟨e, he, x, hx, hxe⟩
            obtain ⟨e, he, x, hx, hxe⟩ := hr'
            obtain ⟨o, c, as, gd, ho, hop, hgd', hch, hcall, hlt, hdd⟩ := cOneD_spec (hd d hdl).2
            have hda : d.after = edgesOf o := by rw [hdd]
            rw [hda] at he
            have := hlt e he
            exact ihm x.i (by omega) ⟨x, hx, Nat.le_refl _⟩
      obtain ⟨d, l', rfl⟩ := List.exists_cons_of_ne_nil hl0
      exact key d.i ⟨d, List.mem_cons_self, Nat.le_refl _⟩
    refine ⟨fun hrn => ?_, fun i hi => ?_⟩
    · match l, hr, hne, hrd with
      | [], hr, _, _ => exact ⟨g, s, h, hlen, hr⟩
      | x :: l, _, hne, hrd =>
        obtain ⟨d, hdl, hr'⟩ := hne (by simp)
        have := hrd d hdl hr'
        rw [hrn] at this; cases this
    · obtain ⟨hun, o, ho, hall⟩ := mem_ready.1 hi
      have hilt := (Array.getElem?_eq_some_iff.1 ho).1
      obtain ⟨d, hdl, rfl⟩ := (hc i hilt).1 hun
      obtain ⟨o', c, as, gd, ho', hop, hgd', hch, hcall, hlt, hdd⟩ := cOneD_spec (hd d hdl).2
      rw [ho] at ho'; cases ho'
      have hedge : ∀ e ∈ edgesOf o, listed.getD e false = true := by
        intro e he
        obtain ⟨ed, hed, rfl⟩ := List.mem_map.1 he
        obtain ⟨h1, h2⟩ := List.mem_filter.1 hed
        exact hall ed (by simpa using h1) h2
      have hrdy : readyD l d = true := by
        refine List.all_eq_true.2 fun e he => List.all_eq_true.2 fun x hx => ?_
        have hda : d.after = edgesOf o := by rw [hdd]
        rw [hda] at he
        have := (hgd e (by have := hlt e he; omega)).1 (hedge e he) x hx
        simpa using this
      have hst : stepK O d.op (srunA O (Q .normal) n (rmD l d.i)) s := by
        match l, hr, hdl, hrdy with
        | x :: l, hr, hdl, hrdy => exact hr d hdl hrdy
      rw [hdd] at hst
      have hnl : ¬ listed.getD d.i false = true := by
        intro hx
        have := (hgd d.i hilt).1 hx d hdl
        exact this rfl
      obtain ⟨σ', hsub, hop⟩ := hop
      refine one_ok hS ho (.inl hop) hgd' hch hcall (stepK_toP hst) h (hsub a (hD.sub ho hedge)) fun rv g' s' w' hR hl' hK hmv => ?_
      refine ih (rmD l d.i) (listed.setIfInBounds d.i true) s' g' _ w' (by simpa using hsz) ?_ ?_ ?_ ?_ (hl'.trans hlen) hK hR
      · have := rm_len hdl; omega
      · intro x hx; exact hd x (List.mem_filter.1 hx).1
      · intro j hj
        by_cases hji : d.i = j
        · subst hji
          have : (listed.setIfInBounds d.i true).getD d.i true = true := by simp [Array.getD, hsz, hilt]
          rw [this]
          constructor
          · intro h; cases h
          · rintro ⟨x, hx, hxe⟩
            have := (List.mem_filter.1 hx).2
            simp [hxe] at this
        · rw [getD_set_ne true hji, hc j hj]
          constructor
          · rintro ⟨x, hx, rfl⟩; exact ⟨x, List.mem_filter.2 ⟨hx, by simpa using fun e => hji e.symm⟩, rfl⟩
          · rintro ⟨x, hx, rfl⟩; exact ⟨x, (List.mem_filter.1 hx).1, rfl⟩
      · refine hD.next ho hedge hnl (fun k hk => ?_) (fun k hk => getD_set_true hk) hmv
        by_cases hki : d.i = k
        · exact .inr hki.symm
        · rw [getD_set_ne false hki] at hk; exact .inl hk

theorem Rel.forget (h : Rel g0 w0 g s a w) {k : Nat} {s' : S} (hf : Forget k s s') (hk : g0.ρ.length ≤ k) : ∃ g', Rel g0 w0 g' s' a w := by
  have henv : EnvOk g w s'.env a.tmps := by
    refine ⟨by rw [h.env.size, hf.env.1], fun t ht ht' => ?_⟩
    have ht2 : t < s.env.length := by rw [← hf.env.1]; exact ht'
    rcases hf.env.2 t with h1 | h1
    · simp only [S.get, List.getD_eq_getElem?_getD, List.getElem?_eq_getElem ht', List.getElem?_eq_getElem ht2, Option.getD_some] at h1
      rw [h1]; exact h.env.val t ht ht2
    · simp only [S.get, List.getD_eq_getElem?_getD, List.getElem?_eq_getElem ht', Option.getD_some] at h1
      rw [h1]; exact .undef _ _
  rcases hf.st with hst | ⟨h1, h2, h3, h4⟩
  · exact ⟨g, h.fr, by rw [hst]; exact h.inv, henv, h.defers⟩
  · exact ⟨_, h.fr.trim (Nat.le_trans hk h1), h.inv.trim h2 h4, henv.trim h3, h.defers⟩

theorem Rel.rho_len (h : Rel g0 w0 g s a w) : g0.ρ.length ≤ s.st.length := by
  rw [← h.inv.len]; exact rho_le h.fr

theorem findL_consD (d : SI) (c : SC) (l : Nat) (h : findL c l = none) : findL (consD d c) l = none := by
  unfold consD
  split
  · rfl
  · simpa [findL] using h
  · simp [findL, h]

theorem findL_plan (l : Nat) : ∀ (n : Nat) (ds : List DI), findL (planD n ds) l = none
  | 0, _ => rfl
  | _ + 1, [] => rfl
  | n + 1, d :: ds => by
    simp only [planD]
    split
    · exact findL_consD _ _ _ (findL_plan l n _)
    · cases (d :: ds).filter (readyD (d :: ds)) <;> rfl

theorem findL_ok {nt : Nat} (l : Nat) : ∀ (c : Code) (sc : SC), cCode P res nt c = some sc → match findL sc l with
    | some sr => ∃ r, findLabel c l = some r ∧ cCode P res nt r = some sr ∧ SizeOf.sizeOf r ≤ SizeOf.sizeOf c
    | none => findLabel c l = none
  | .skip, sc, hc => by simp only [cCode, Option.some.injEq] at hc; subst hc; rfl
  | .region _ _ true, sc, hc => by
    simp only [cCode] at hc
    split at hc
    · simp only [Option.map_eq_some_iff] at hc
      obtain ⟨ds, _, rfl⟩ := hc
      rw [findL_plan]; rfl
    · cases hc
  | .region _ _ false, sc, hc => by
    simp only [cCode, Option.map_eq_some_iff] at hc
    obtain ⟨_, _, rfl⟩ := hc; rfl
  | .seq x y, sc, hc => by
    simp only [cCode, Option.bind_eq_bind, Option.bind_eq_some_iff, Option.some.injEq] at hc
    obtain ⟨sx, hx, sy, hy, rfl⟩ := hc
    have h1 := findL_ok l x sx hx
    have h2 := findL_ok l y sy hy
    simp only [findL]
    cases hfx : findL sx l with
    | some r =>
      rw [hfx] at h1
      obtain ⟨rx, h3, h4, h5⟩ := h1
      refine ⟨.seq rx y, by simp [findLabel, h3], by simp [cCode, h4, hy], ?_⟩
      simp; omega
    | none =>
      rw [hfx] at h1
      simp only at h1 ⊢
      cases hfy : findL sy l with
      | some r =>
        rw [hfy] at h2
        obtain ⟨ry, h3, h4, h5⟩ := h2
        refine ⟨ry, by simp [findLabel, h1, h3], h4, ?_⟩
        simp; omega
      | none =>
        rw [hfy] at h2
        simp only at h2 ⊢
        simp [findLabel, h1, h2]
  | .cond _ _ _, sc, hc => by
    simp only [cCode, Option.bind_eq_bind, Option.bind_eq_some_iff, Option.some.injEq] at hc
    obtain ⟨_, _, _, _, _, _, rfl⟩ := hc; rfl
  | .block _ _, sc, hc => by
    simp only [cCode, Option.bind_eq_bind, Option.bind_eq_some_iff, Option.some.injEq] at hc
    obtain ⟨_, _, rfl⟩ := hc; rfl
  | .loop _, sc, hc => by
    simp only [cCode, Option.bind_eq_bind, Option.bind_eq_some_iff, Option.some.injEq] at hc
    obtain ⟨_, _, rfl⟩ := hc; rfl
  | .exit _, sc, hc => by simp only [cCode, Option.some.injEq] at hc; subst hc; rfl
  | .ret, sc, hc => by simp only [cCode, Option.some.injEq] at hc; subst hc; rfl
  | .scope _, sc, hc => by
    simp only [cCode, Option.bind_eq_bind, Option.bind_eq_some_iff, Option.some.injEq] at hc
    obtain ⟨_, _, _, _, _, _, rfl⟩ := hc; rfl
  | .label l', sc, hc => by
    simp only [cCode, Option.some.injEq] at hc; subst hc
    simp only [findL]
    by_cases hl : (l' == l) = true
    · simp only [hl, if_true]
      exact ⟨.skip, by simp [findLabel, hl], rfl, by simp⟩
    · simp only [hl]
      simp [findLabel, hl]
  | .goto _, sc, hc => by simp only [cCode, Option.some.injEq] at hc; subst hc; rfl
  | .rangeFunc .., sc, hc => by simp [cCode] at hc
  | .refuse _, sc, hc => by simp [cCode] at hc

theorem code_ok (hS : Sound P O) {nt : Nat} : ∀ (c : Code) (sc : SC) (Q : Ex → S → Prop) (s : S) (g : Gh) (a : Act) (w : World), cCode P res nt c = some sc → swp O sc Q s → Rel g0 w0 g s a w → s.env.length = nt → c.wp P (Pst g0 w0 nt Q) a w
  | .skip, sc, Q, s, g, a, w, hc, hq, h, hl => by
    simp only [cCode, Option.some.injEq] at hc; subst hc
    exact wp_skip ⟨g, s, h, hl, hq⟩
  | .region id ops draw, sc, Q, s, g, a, w, hc, hq, h, hl => by
    cases draw with
    | true =>
      simp only [cCode] at hc
      split at hc
      · rename_i hm
        simp only [Option.map_eq_some_iff] at hc
        obtain ⟨ds, hds, rfl⟩ := hc
        obtain ⟨hlen, hget⟩ := mapM_get hds
        have hd : ∀ i (hi : i < ds.length), i < ops.size ∧ cOneD P res nt ops i = some (ds[i]'hi) := by
          intro i hi
          have := hget i hi (by omega)
          rw [List.getElem_range] at this
          exact ⟨by rw [hlen] at hi; simpa using hi, this⟩
        have hdi : ∀ i (hi : i < ds.length), (ds[i]'hi).i = i := by
          intro i hi
          obtain ⟨o, c, as, gd, _, _, _, _, _, _, hdd⟩ := cOneD_spec (hd i hi).2
          rw [hdd]
        refine wp_region_any hm ?_
        have hR : Rel g0 w0 g s a w.drew := h.drew
        refine any_ok (res := res) hS ops.size ds _ s g a _ (by simp) (by simp at hlen; omega) ?_ ?_ ?_ hl (plan_ok (fun _ h => h) _ _ _ (by simp at hlen; omega) (fun x hx y hy e => by
          obtain ⟨i, hi, rfl⟩ := List.getElem_of_mem hx
          obtain ⟨j, hj, rfl⟩ := List.getElem_of_mem hy
          rw [hdi i hi, hdi j hj] at e
          subst e
          rfl) hq) hR
        · intro d hdm
          obtain ⟨i, hi, rfl⟩ := List.getElem_of_mem hdm
          rw [hdi i hi]
          exact hd i hi
        · intro j hj
          constructor
          · intro _
            have hj' : j < ds.length := by simp at hlen; omega
            exact ⟨ds[j]'hj', List.getElem_mem hj', hdi j hj'⟩
          · intro _
            simp [Array.getD, hj]
        · refine ⟨by rw [h.env.size]; exact hl, fun k o hk => ?_, fun k d x hk => ?_⟩
          · exfalso; revert hk; simp [Array.getD]
          · exfalso; revert hk; simp [Array.getD]
      · cases hc
    | false =>
      simp only [cCode, Option.map_eq_some_iff] at hc
      obtain ⟨sis, hrow, rfl⟩ := hc
      refine wp_region ?_
      have := row_ok hS (Q := Q) ops.toList 0 [] sis s g a w rfl hrow hq h (Sub.nil a) hl
      simpa [List.range_eq_range'] using this
  | .seq x y, sc, Q, s, g, a, w, hc, hq, h, hl => by
    simp only [cCode, Option.bind_eq_bind, Option.bind_eq_some_iff, Option.some.injEq] at hc
    obtain ⟨sx, hx, sy, hy, rfl⟩ := hc
    refine wp_seq (wp_mono (code_ok hS x sx _ s g a w hx hq h hl) ?_)
    rintro e a' w' ⟨g', s', hR, hl', hm⟩
    cases e with
    | normal => exact code_ok hS y sy Q s' g' a' w' hy hm hR hl'
    | exit id => exact ⟨g', s', hR, hl', hm⟩
    | ret => exact ⟨g', s', hR, hl', hm⟩
    | goto l => exact ⟨g', s', hR, hl', hm⟩
    | panic ch => exact hm.elim
    | outgrown => exact hm.elim
  | .cond cnd x y, sc, Q, s, g, a, w, hc, hq, h, hl => by
    simp only [cCode, Option.bind_eq_bind, Option.bind_eq_some_iff, Option.some.injEq] at hc
    obtain ⟨ar, har, sx, hx, sy, hy, rfl⟩ := hc
    obtain ⟨t, ht, hq⟩ := hq
    have hA := AOk.of h.env (Sub.nil a) har
    obtain ⟨ow, hv⟩ := hA.V
    rw [ht] at hv
    refine wp_cond hv.bool_inv ?_
    cases t with
    | true => exact code_ok hS x sx Q s g a w hx hq h hl
    | false => exact code_ok hS y sy Q s g a w hy hq h hl
  | .block id x, sc, Q, s, g, a, w, hc, hq, h, hl => by
    simp only [cCode, Option.bind_eq_bind, Option.bind_eq_some_iff, Option.some.injEq] at hc
    obtain ⟨sx, hx, rfl⟩ := hc
    refine wp_block (wp_mono (code_ok hS x sx _ s g a w hx hq h hl) ?_)
    rintro e a' w' ⟨g', s', hR, hl', hm⟩
    cases e with
    | normal => exact ⟨g', s', hR, hl', hm⟩
    | exit id' =>
      simp only [Exit.inBlock]
      simp only at hm
      split
      · rename_i e; rw [if_pos e] at hm; exact ⟨g', s', hR, hl', hm⟩
      · rename_i e; rw [if_neg e] at hm; exact ⟨g', s', hR, hl', hm⟩
    | ret => exact ⟨g', s', hR, hl', hm⟩
    | goto l => exact ⟨g', s', hR, hl', hm⟩
    | panic ch => exact hm.elim
    | outgrown => exact hm.elim
  | .loop x, sc, Q, s, g, a, w, hc, hq, h, hl => by
    simp only [cCode, Option.bind_eq_bind, Option.bind_eq_some_iff, Option.some.injEq] at hc
    obtain ⟨sx, hx, rfl⟩ := hc
    obtain ⟨I, μ, ⟨s0, hf0, hI0⟩, hround⟩ := hq
    have hk := h.rho_len
    obtain ⟨g1, hR1⟩ := h.forget hf0 hk
    refine wp_loop_ghost (fun n a w => ∃ g s, Rel g0 w0 g s a w ∧ s.env.length = nt ∧ I s ∧ μ s = n) (μ s0) ⟨g1, s0, hR1, by rw [hf0.env.1]; exact hl, hI0, rfl⟩ ?_
    rintro n a' w' ⟨g', s', hR, hl', hI, rfl⟩
    refine wp_mono (code_ok hS x sx _ s' g' a' w' hx (hround s' hI) hR hl') ?_
    rintro e a'' w'' ⟨g'', s'', hR'', hl'', hm⟩
    cases e with
    | normal =>
      obtain ⟨s3, hf3, hI3, hμ⟩ := hm
      obtain ⟨g3, hR3⟩ := hR''.forget hf3 hk
      exact ⟨μ s3, hμ, g3, s3, hR3, by rw [hf3.env.1]; exact hl'', hI3, rfl⟩
    | exit id => exact ⟨g'', s'', hR'', hl'', hm⟩
    | ret => exact ⟨g'', s'', hR'', hl'', hm⟩
    | goto l => exact ⟨g'', s'', hR'', hl'', hm⟩
    | panic ch => exact hm.elim
    | outgrown => exact hm.elim
  | .exit id, sc, Q, s, g, a, w, hc, hq, h, hl => by
    simp only [cCode, Option.some.injEq] at hc; subst hc
    exact wp_exit ⟨g, s, h, hl, hq⟩
  | .ret, sc, Q, s, g, a, w, hc, hq, h, hl => by
    simp only [cCode, Option.some.injEq] at hc; subst hc
    exact wp_ret ⟨g, s, h, hl, hq⟩
  | .scope x, sc, Q, s, g, a, w, hc, hq, h, hl => by
    simp only [cCode, Option.bind_eq_bind, Option.bind_eq_some_iff, Option.some.injEq] at hc
    obtain ⟨l, _, sx, hx, sr, hsr, rfl⟩ := hc
    have hfl := findL_ok l x sx hx
    rw [hsr] at hfl
    obtain ⟨r, hr1, hr2, hr3⟩ := hfl
    refine wp_scope_jumps (rest := r) l (Pst g0 w0 nt (fun _ s' => swp O sr (fun e s'' => match e with | .goto _ => False | e => Q e s'') s') .normal) (fun _ _ => 0) hr1 ?_ ?_
    · refine wp_mono (code_ok hS x sx _ s g a w hx hq h hl) ?_
      rintro e a' w' ⟨g', s', hR, hl', hm⟩
      cases e with
      | normal => exact ⟨g', s', hR, hl', hm⟩
      | exit id' => exact ⟨g', s', hR, hl', hm⟩
      | ret => exact ⟨g', s', hR, hl', hm⟩
      | goto l' => exact ⟨hm.1, g', s', hR, hl', hm.2⟩
      | panic ch => exact hm.elim
      | outgrown => exact hm.elim
    · rintro a' w' ⟨g', s', hR, hl', hm⟩
      refine wp_mono (code_ok hS r sr _ s' g' a' w' hr2 hm hR hl') ?_
      rintro e a'' w'' ⟨g'', s'', hR'', hl'', hm''⟩
      cases e with
      | normal => exact ⟨g'', s'', hR'', hl'', hm''⟩
      | exit id' => exact ⟨g'', s'', hR'', hl'', hm''⟩
      | ret => exact ⟨g'', s'', hR'', hl'', hm''⟩
      | goto l' => exact hm''.elim
      | panic ch => exact hm''.elim
      | outgrown => exact hm''.elim
  | .label l, sc, Q, s, g, a, w, hc, hq, h, hl => by
    simp only [cCode, Option.some.injEq] at hc; subst hc
    exact wp_label ⟨g, s, h, hl, hq⟩
  | .goto l, sc, Q, s, g, a, w, hc, hq, h, hl => by
    simp only [cCode, Option.some.injEq] at hc; subst hc
    exact wp_goto ⟨g, s, h, hl, hq⟩
  | .rangeFunc .., sc, Q, s, g, a, w, hc, hq, h, hl => by simp [cCode] at hc
  | .refuse _, sc, Q, s, g, a, w, hc, hq, h, hl => by simp [cCode] at hc
termination_by c => SizeOf.sizeOf c

end
end Go.Sh
