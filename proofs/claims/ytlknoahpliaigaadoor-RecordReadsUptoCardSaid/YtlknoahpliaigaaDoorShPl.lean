/-
  Rows of many orders: gone through by what is done, in the shadow machine.
-/
import Derived.Test.YtlknoahpliaigaaDoorShRd
set_option linter.unusedSimpArgs false
set_option linter.unusedVariables false
namespace Go.Sh
theorem consD_swp {O : Orc} {Q : Ex → S → Prop} {d : SI} {c : SC} {s : S} (h : stepK O d (swp O c Q) s) : swp O (consD d c) Q s := by
  unfold consD
  split
  · exact h
  · exact h
  · exact h
theorem plan_inv {O : Orc} {QQ : Ex → S → Prop} (I : List DI → S → Prop) (h0 : ∀ s, I [] s → QQ .normal s)
    (h1 : ∀ l s d, I l s → d ∈ l → readyD l d = true → stepK O d.op (fun s' => I (rmD l d.i) s') s) : ∀ (n : Nat) (l : List DI) (s : S), l.length ≤ n → I l s → swp O (planD n l) QQ s := by
  intro n
  induction n with
  | zero =>
    intro l s hl h
    match l with
    | [] => exact h0 s h
    | _ :: _ => simp at hl
  | succ n ih =>
    intro l s hl h
    match l with
    | [] => exact h0 s h
    | d :: l =>
      have step : ∀ e, e ∈ d :: l → readyD (d :: l) e = true → swp O (consD e.op (planD n (rmD (d :: l) e.i))) QQ s := by
        intro e he hr
        refine consD_swp (stepK_mono (fun s' h' => ih _ s' ?_ h') (h1 _ s e h he hr))
        have := rm_len he
        omega
      simp only [planD]
      split
      · rename_i e hfe
        have hf := List.find?_some hfe
        simp only [first, Bool.and_eq_true] at hf
        exact step e (List.mem_of_find?_eq_some hfe) hf.1
      · have key : ∀ (ls : List DI), (∀ e ∈ ls, e ∈ d :: l ∧ readyD (d :: l) e = true) → swp O (ls.foldr (fun e acc => .both (consD e.op (planD n (rmD (d :: l) e.i))) acc) .tt) QQ s := by
          intro ls
          induction ls with
          | nil => intro _; exact trivial
          | cons y ls ihl =>
            intro hh
            rw [List.foldr_cons]
            exact ⟨step y (hh y List.mem_cons_self).1 (hh y List.mem_cons_self).2, ihl fun e he => hh e (List.mem_cons_of_mem _ he)⟩
        exact key _ fun e he => List.mem_filter.1 he
def closedD (full : List DI) (b : Nat → Bool) : Prop := ∀ x ∈ full, b x.i = true → ∀ e ∈ x.after, (∃ y ∈ full, y.i = e) → b e = true
theorem plan_done {O : Orc} {QQ : Ex → S → Prop} (full : List DI) (env : (Nat → Bool) → List SV) (st : List Ob) {n : Nat} (hn : full.length ≤ n)
    (hu : (full.all fun x => full.all fun y => x.i != y.i || x.after == y.after) = true)
    (h0 : ∀ b : Nat → Bool, (∀ d ∈ full, b d.i = true) → QQ .normal ⟨env b, st⟩)
    (h1 : ∀ (b : Nat → Bool) (d : DI), d ∈ full → closedD full b → b d.i = false → (∀ e ∈ d.after, (∃ x ∈ full, x.i = e) → b e = true) → stepK O d.op (fun s' => s' = ⟨env (fun j => b j || j == d.i), st⟩) ⟨env b, st⟩)
    {b0 : Nat → Bool} (hb : ∀ j, b0 j = false) {s : S} (hs : s = ⟨env b0, st⟩) : swp O (planD n full) QQ s := by
  subst hs
  refine plan_inv (fun l s => ∃ b : Nat → Bool, l = full.filter (fun d => !b d.i) ∧ closedD full b ∧ s = ⟨env b, st⟩) ?_ ?_ n full _ hn ⟨b0, ?_, ?_, rfl⟩
  · rintro s ⟨b, hl, _, rfl⟩
    refine h0 b fun d hd => ?_
    have := (List.filter_eq_nil_iff.1 hl.symm) d hd
    simpa using this
  · rintro l s d ⟨b, rfl, hc, rfl⟩ hd hr
    obtain ⟨hdf, hdb⟩ := List.mem_filter.1 hd
    have hdb' : b d.i = false := by simpa using hdb
    have e1 : rmD (full.filter fun d => !b d.i) d.i = full.filter fun x => !(b x.i || x.i == d.i) := by
      unfold rmD
      rw [List.filter_filter]
      congr 1
      funext x
      show (x.i != d.i && !b x.i) = _
      rw [bne]
      cases b x.i <;> cases (x.i == d.i) <;> rfl
    have e2 : ∀ e ∈ d.after, (∃ x ∈ full, x.i = e) → b e = true := by
      rintro e he ⟨x, hx, hxe⟩
      have hr' := (List.all_eq_true.1 hr) e he
      rw [List.all_eq_true] at hr'
      cases hbe : b e with
      | true => rfl
      | false =>
        have := hr' x (List.mem_filter.2 ⟨hx, by rw [hxe, hbe]; rfl⟩)
        rw [hxe] at this; simp at this
    have e3 : closedD full (fun j => b j || j == d.i) := by
      intro x hx hbx e he hy
      simp only [Bool.or_eq_true, beq_iff_eq] at hbx ⊢
      left
      rcases hbx with hbx | hbx
      · exact hc x hx hbx e he hy
      · rw [List.all_eq_true] at hu
        have := hu x hx
        rw [List.all_eq_true] at this
        have := this d hdf
        rw [Bool.or_eq_true, bne_iff_ne, beq_iff_eq] at this
        have ha := this.resolve_left (fun h => h hbx)
        rw [ha] at he
        exact e2 e he hy
    exact stepK_mono (fun s' h' => ⟨fun j => b j || j == d.i, e1, e3, h'⟩) (h1 b d hdf hc hdb' e2)
  · symm; rw [List.filter_eq_self]; intro d _; rw [hb]; rfl
  · intro x _ h; rw [hb] at h; cases h
theorem plan_idx {O : Orc} {QQ : Ex → S → Prop} (full : List DI) (env : (Nat → Bool) → List SV) (st : List Ob) {n : Nat} (hn : full.length ≤ n)
    (hi : full.map (·.i) = List.range full.length) (ha : (full.all fun d => d.after.all fun e => decide (e < full.length)) = true)
    (h0 : ∀ b : Nat → Bool, (∀ j, j < full.length → b j = true) → QQ .normal ⟨env b, st⟩)
    (h1 : ∀ (b : Nat → Bool) (j : Nat) (hj : j < full.length), (∀ (k : Nat) (hk : k < full.length), b k = true → ∀ e ∈ full[k].after, b e = true) → b j = false → (∀ e ∈ full[j].after, b e = true) →
      stepK O full[j].op (fun s' => s' = ⟨env (fun k => b k || k == j), st⟩) ⟨env b, st⟩)
    {b0 : Nat → Bool} (hb : ∀ j, b0 j = false) {s : S} (hs : s = ⟨env b0, st⟩) : swp O (planD n full) QQ s := by
  have hix : ∀ (j : Nat) (hj : j < full.length), full[j].i = j := by
    intro j hj
    have h2 : (full.map (·.i))[j]? = (List.range full.length)[j]? := by rw [hi]
    rw [List.getElem?_map, List.getElem?_eq_getElem hj, List.getElem?_range hj] at h2
    exact Option.some.inj h2
  have hmem : ∀ d ∈ full, ∃ j, ∃ hj : j < full.length, d = full[j] := by
    intro d hd
    obtain ⟨j, hj, e⟩ := List.getElem_of_mem hd
    exact ⟨j, hj, e.symm⟩
  have hin : ∀ d ∈ full, ∀ e ∈ d.after, ∃ x ∈ full, x.i = e := by
    intro d hd e he
    rw [List.all_eq_true] at ha
    have := ha d hd
    rw [List.all_eq_true] at this
    have hlt := of_decide_eq_true (this e he)
    exact ⟨full[e], List.getElem_mem hlt, hix e hlt⟩
  refine plan_done full env st hn ?_ ?_ ?_ hb hs
  · rw [List.all_eq_true]
    intro x hx
    rw [List.all_eq_true]
    intro y hy
    obtain ⟨j, hj, rfl⟩ := hmem x hx
    obtain ⟨k, hk, rfl⟩ := hmem y hy
    rw [hix j hj, hix k hk]
    by_cases e : j = k
    · subst e; simp
    · have : (j != k) = true := by simpa using e
      rw [this]; rfl
  · intro b h
    exact h0 b fun j hj => by have := h _ (List.getElem_mem hj); rwa [hix j hj] at this
  · intro b d hd hc hbd he
    obtain ⟨j, hj, rfl⟩ := hmem d hd
    rw [hix j hj] at hbd ⊢
    refine h1 b j hj (fun k hk hbk e hek => ?_) hbd fun e hee => he e hee (hin _ hd e hee)
    refine hc _ (List.getElem_mem hk) (by rw [hix k hk]; exact hbk) e hek (hin _ (List.getElem_mem hk) e hek)
end Go.Sh
