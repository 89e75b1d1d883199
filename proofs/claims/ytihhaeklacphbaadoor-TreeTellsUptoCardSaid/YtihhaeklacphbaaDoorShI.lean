/-
  The shadow machine, part I: append.
-/
import Derived.Test.YtihhaeklacphbaaDoorShH
set_option linter.unusedSimpArgs false
set_option linter.unusedVariables false
namespace Go.Sh

section
variable {P : Program} {g0 : Gh} {w0 : World} {g : Gh} {w : World} {s : S} {a : Act} {o : Oper}

theorem Rel.weak (h : Rel g0 w0 g s a w) (t : Nat) {v' : SV} (hv : ∀ rv, V g w (slotO t) rv (s.get t) → V g w (slotO t) rv v') : Rel g0 w0 g { s with env := s.env.set t v' } a w := by
  refine ⟨h.fr, h.inv, h.env.set_of fun h1 => ?_, h.defers⟩
  have hl : t < s.env.length := by rw [← h.env.size]; exact h1
  have := h.env.val t h1 hl
  refine hv _ ?_
  simpa [S.get, List.getElem?_eq_getElem hl] using this

/-- What an append appends. -/
theorem src_ok {es : Nat} {u : TypeId} {yv : Value} {sy : SV} {m : Nat} {ys : List SV} {ow : Option Owner} {st : List Ob} (hI : Inv g w st) (hy : V g w ow yv sy) (h : srcV st es sy = some (m, ys))
    (hu : (∃ e', P.underlying u = some (.slice e')) ∨ P.underlying u = some .string) :
    ∃ news : List Value, Src P es u yv m news w ∧ news.length = ys.length ∧ ∀ i (h : i < news.length) (h' : i < ys.length), V g w none (news[i]'h) (ys[i]'h') := by
  unfold srcV at h
  split at h
  · split at h
    · rename_i xs m' fl hl
      simp only [Option.some.injEq, Prod.mk.injEq] at h
      obtain ⟨rfl, rfl⟩ := h
      cases hy with
      | slz _ ad fl hf => exact ⟨[], ⟨hu, fun _ => rfl, run_firstCells_some w es 0 ad 0 0 [] (by simp) (by intro j v hj; simp at hj), run_firstCells_some w.drew es 0 ad 0 0 [] (by simp) (by intro j v hj; simp at hj), by simp, fun _ h => by cases h⟩, rfl, fun i h => by simp at h⟩
      | sl _ b off len cap _ _ f hlen hcell hone hx hf =>
        have hc : ∀ j v, ((List.range xs.length).map f)[j]? = some v → w.cell? ((⟨b, off, none⟩ : Addr).add j) = some v := by
          intro j v hj
          rw [addr_add]
          rw [List.getElem?_map] at hj
          simp only [Option.map_eq_some_iff] at hj
          obtain ⟨i, hi, rfl⟩ := hj
          obtain ⟨h1, rfl⟩ := List.getElem?_eq_some_iff.1 hi
          simp at h1 ⊢
          exact hcell j h1
        refine ⟨(List.range xs.length).map f, ⟨hu, fun _ => rfl, run_firstCells_some w es m' ⟨b, off, none⟩ m' cap _ (by simp [hl]) hc, run_firstCells_some w.drew es m' ⟨b, off, none⟩ m' cap _ (by simp [hl]) (by simpa using hc), by simp [hl], fun v hv => ?_⟩, by simp, fun i h h' => by simpa using hx i h'⟩
        obtain ⟨i, hi, rfl⟩ := List.mem_map.1 hv
        exact hone i (by simpa using hi)
    · cases h
  · simp only [Option.some.injEq, Prod.mk.injEq] at h
    obtain ⟨rfl, rfl⟩ := h
    cases hy
    exact ⟨[], ⟨hu, fun _ => rfl, run_firstCells_none w es 0 0 0, run_firstCells_none w.drew es 0 0 0, by simp, fun _ h => by cases h⟩, rfl, fun i h => by simp at h⟩
  · split at h
    · rename_i l he
      simp only [Option.some.injEq, Prod.mk.injEq] at h
      obtain ⟨rfl, rfl⟩ := h
      subst he
      obtain ⟨t, rfl, rfl⟩ := hy.str_inv
      have hsz := size_eq t
      refine ⟨byteCells t, ⟨hu, fun _ => by rw [← hsz]; rfl, by rw [← hsz]; exact firstCells_string t w, by rw [← hsz]; exact firstCells_string t w.drew, by rw [byteCells_length, Nat.mul_one, hsz], fun v hv => ?_⟩, by simp [byteCells], fun i h h' => by simp [byteCells]; exact .int _ _ _⟩
      obtain ⟨_, _, rfl⟩ := List.mem_map.1 hv
      rfl
    · cases h
  · rename_i id off n
    simp only [Option.map_eq_some_iff, Prod.mk.injEq] at h
    obtain ⟨l, hl, rfl, rfl⟩ := h
    cases hy with
    | slo _ _ _ _ b cap hlen hid =>
      obtain ⟨hll, hcc⟩ := ob_cells hI hid hl
      have hex : ∀ i, ∃ v, i < l.length → w.cell? ⟨b, off + i, none⟩ = some v ∧ v.oneCell' = true ∧ ∀ hi : i < l.length, V g w (cellO id (off + i)) v (l[i]'hi) := by
        intro i
        by_cases hi : i < l.length
        · obtain ⟨v, h1, h2, h3⟩ := hcc i hi
          exact ⟨v, fun _ => ⟨h1, h2, fun _ => h3⟩⟩
        · exact ⟨Go.undef, fun h => absurd h hi⟩
      obtain ⟨F, hF⟩ := Classical.axiomOfChoice hex
      have hc : ∀ j v, ((List.range l.length).map F)[j]? = some v → w.cell? ((⟨b, off, none⟩ : Addr).add j) = some v := by
        intro j v hj
        rw [addr_add]
        rw [List.getElem?_map] at hj
        simp only [Option.map_eq_some_iff] at hj
        obtain ⟨i, hi, rfl⟩ := hj
        obtain ⟨h1, rfl⟩ := List.getElem?_eq_some_iff.1 hi
        simp at h1 ⊢
        exact (hF j h1).1
      refine ⟨(List.range l.length).map F, ⟨hu, fun _ => rfl, run_firstCells_some w es n ⟨b, off, none⟩ n cap _ (by simp [hll]) hc, run_firstCells_some w.drew es n ⟨b, off, none⟩ n cap _ (by simp [hll]) (by simpa using hc), by simp [hll], fun v hv => ?_⟩, by simp, fun i h h' => ?_⟩
      · obtain ⟨i, hi, rfl⟩ := List.mem_map.1 hv
        exact (hF i (by simpa using hi)).2.1
      · simp at h h'
        simp only [List.getElem_map, List.getElem_range]
        exact ((hF i h).2.2 h).ro none
  · cases h

theorem setCells_heap (b : Nat) : ∀ (vs : List Value) (o : Nat) (w : World) (k : Nat), k ≠ b → (w.setCells b o vs).heap[k]? = w.heap[k]?
  | [], _, _, _, _ => rfl
  | v :: r, o, w, k, h => by
    rw [World.setCells, setCells_heap b r (o + 1) _ k h]
    exact RowKit.Below.heap_setCell _ _ _ _ h

theorem setCells_same (b : Nat) : ∀ (vs : List Value) (o : Nat) (w : World), (w.setCells b o vs).os = w.os ∧ (w.setCells b o vs).tape = w.tape ∧ (w.setCells b o vs).output = w.output ∧ (w.setCells b o vs).heap.size = w.heap.size
  | [], _, _ => ⟨rfl, rfl, rfl, rfl⟩
  | v :: r, o, w => by
    obtain ⟨h1, h2, h3, h4⟩ := setCells_same b r (o + 1) (w.setCell ⟨b, o, none⟩ v)
    refine ⟨h1, h2, h3, h4.trans ?_⟩
    simp [World.setCell]

theorem setCells_block (b : Nat) : ∀ (vs : List Value) (o : Nat) (w : World) (cur : Array Value) (E : TypeId) (fr : Nat × Nat), w.heap[b]? = some (.cells cur E fr) → ∃ cur', (w.setCells b o vs).heap[b]? = some (.cells cur' E fr) ∧ cur'.size = cur.size
  | [], _, _, cur, _, _, h => ⟨cur, h, rfl⟩
  | v :: r, o, w, cur, E, fr, h => by
    have h' : (w.setCell ⟨b, o, none⟩ v).heap[b]? = some (.cells (cur.setIfInBounds o v) E fr) := by
      simp [World.setCell, Array.getElem?_modify, h]
    obtain ⟨cur', h1, h2⟩ := setCells_block b r (o + 1) _ _ E fr h'
    exact ⟨cur', h1, by simpa using h2⟩

/-- What an append leaves in the place that it appended to. -/
def Fl.left (fl : Fl) (xs : List SV) (n : Nat) : SV := match fl with | .own _ => .sl xs n .ro | _ => .undef
def Fl.mk (fl : Fl) (m : Nat) : Nat := match fl with | .own _ => m | _ => 0

/-- Appended in place. -/
theorem Rel.room (h : Rel g0 w0 g s a w) {t d : Nat} {xs ys : List SV} {n m es cap b : Nat} {fl : Fl} (hfl : fl = .own es ∨ fl = .excl es) (ht : s.get t = .sl xs n fl) (htd : t ≠ d) (hrv : a.eval (.tmp t) = .slice (some ⟨b, 0, none⟩) n cap)
    {news : List Value} (hl : news.length = ys.length) (hm : ys.length = m * es) (hone : ∀ u ∈ news, u.oneCell' = true) (hx : ∀ i (h : i < news.length) (h' : i < ys.length), V g w none (news[i]'h) (ys[i]'h')) (hroom : n + m ≤ cap) (hes : 0 < es) :
    (∀ j, j < news.length → (w.cell? ⟨b, 0 + n * es + j, none⟩).isSome = true) ∧ (∀ j, j < news.length → w.frozen? ⟨b, 0 + n * es + j, none⟩ = false) ∧
    ∃ g', Rel g0 w0 g' { s with env := (s.env.set t (fl.left xs n)).set d (.sl (xs ++ ys) (n + m) fl) } (a.put (some d) (.slice (some ⟨b, 0, none⟩) (n + m) cap)) (w.setCells b (0 + n * es) news) := by
  obtain ⟨hlt, hg⟩ := get_lt ht (by simp)
  have hlt' : t < a.tmps.size := by rw [h.env.size]; exact hlt
  have hev : a.eval (.tmp t) = a.tmps[t] := by simp [Act.eval, hlt']
  have hvt := h.env.val t hlt' hlt
  rw [hg, ← hev, hrv] at hvt
  cases hvt with
  | slz _ ad fl hf => rcases hfl with rfl | rfl <;> (rcases hf with h | h <;> cases h)
  | sl _ _ _ _ _ _ _ f hlen hcell hone' hxx hf =>
    have hf' : g.ow b = some ⟨.slot t, []⟩ ∧ xs.length = n * es ∧ (g.mark b = xs.length ∧ fl = .own es ∨ g.mark b = 0 ∧ fl = .excl es) ∧ Gro w b cap es := by
      rcases hfl with rfl | rfl
      · obtain ⟨⟨q, hq, hw⟩, _, h2, h3, h4⟩ := hf
        cases hq
        exact ⟨hw, h2, .inl ⟨h3, rfl⟩, h4⟩
      · obtain ⟨⟨q, hq, hw⟩, _, h2, h3, h4⟩ := hf
        cases hq
        exact ⟨hw, h2, .inr ⟨h3, rfl⟩, h4⟩
    obtain ⟨hw, hxl, hmk, cur, E, lo, hi, hb, hcs, hfz, hcm⟩ := hf'
    have hfit : (n + m) * es ≤ cur.size := Nat.le_trans (Nat.mul_le_mul_right _ hroom) hcs
    rw [Nat.add_mul] at hfit
    have hcells : ∀ j, j < news.length → (w.cell? ⟨b, 0 + n * es + j, none⟩).isSome = true := by
      intro j hj
      rw [cell_at hb, Array.getElem?_eq_getElem (by omega)]
      rfl
    have hfroz : ∀ j, j < news.length → w.frozen? ⟨b, 0 + n * es + j, none⟩ = false := by
      intro j hj
      simp only [World.frozen?, hb]
      rcases hfz with h1 | h1
      · simp; omega
      · simp; omega
    refine ⟨hcells, hfroz, ?_⟩
    obtain ⟨s1, s2, s3, s4⟩ := setCells_same b news (0 + n * es) w
    obtain ⟨cur', hb', hcs'⟩ := setCells_block b news (0 + n * es) w cur E (lo, hi) hb
    have hin := World.cell?_setCells_in b news (0 + n * es) w hcells
    have hout : ∀ x i, (x = b → i < n * es ∨ n * es + news.length ≤ i) → (w.setCells b (0 + n * es) news).cell? ⟨x, i, none⟩ = w.cell? ⟨x, i, none⟩ := by
      intro x i hxi
      refine World.cell?_setCells_out b news (0 + n * es) w ⟨x, i, none⟩ fun h1 _ => ?_
      have := hxi h1
      simp only
      omega
    -- what is known then
    let M : Nat := fl.mk ((n + m) * es)
    let g' : Gh := { g with mark := fun x => if x = b then M else g.mark x, ow := fun x => (g.ow x).map (mv (.slot t) (.slot d)) }
    have hmb : g.mark b ≤ n * es := by rcases hmk with ⟨h1, _⟩ | ⟨h1, _⟩ <;> omega
    have st : St g w g' (w.setCells b (0 + n * es) news) := by
      refine ⟨s1, s2, s3, Nat.le_of_eq s4.symm, fun x i _ hi => hout x i fun e => ?_, fun x _ => ?_, fun _ _ h => h⟩
      · subst e; left; omega
      · show g.mark x ≤ if x = b then M else g.mark x
        split
        · rename_i e; subst e
          rcases hmk with ⟨h1, h2⟩ | ⟨h1, h2⟩
          · have : M = (n + m) * es := by simp only [M, h2, Fl.mk]
            rw [this, Nat.add_mul]; omega
          · omega
        · exact Nat.le_refl _
    have keep : ∀ x q, g.ow x = some q → q.root ≠ .slot t → Keep g w g' (w.setCells b (0 + n * es) news) x := by
      intro x q hq hr
      have hxb : x ≠ b := by rintro rfl; rw [hw] at hq; cases hq; exact hr rfl
      refine ⟨?_, by simp [g', hxb], setCells_heap b news _ w x hxb⟩
      show (g.ow x).map _ = g.ow x
      rw [hq]
      simp only [Option.map_some, mv]
      rw [if_neg hr]
    have fr : Fr g w g' (w.setCells b (0 + n * es) news) := by
      refine ⟨st, fun x _ hx => ?_⟩
      have hxb : x ≠ b := by rintro rfl; exact hx ⟨_, hw, by simp⟩
      cases hq : g.ow x with
      | none => exact ⟨by show (g.ow x).map _ = g.ow x; rw [hq]; rfl, by simp [g', hxb], setCells_heap b news _ w x hxb⟩
      | some q => exact keep x q hq (fun e => hx ⟨q, hq, by rw [e]; simp⟩)
    have hxs : ∀ i (hi : i < xs.length), V g' (w.setCells b (0 + n * es) news) none (f i) xs[i] := fun i hi => (hxx i hi).mono st (KeepRoot.none _ _ _ _)
    have hcell' : ∀ i, i < xs.length → (w.setCells b (0 + n * es) news).cell? ⟨b, 0 + i, none⟩ = some (f i) := by
      intro i hi
      rw [hout b (0 + i) (fun _ => by left; omega)]
      exact hcell i hi
    refine ⟨g', h.fr.trans fr, h.inv.mono st rfl (fun id x hi => keep x _ (h.inv.obj id x hi).2.2 (by simp)) (fun id i => cell_ne fun x p _ hx => keep x _ hx (by simp)), ?_, h.defers⟩
    have E1 : EnvOk g' (w.setCells b (0 + n * es) news) (s.env.set t (fl.left xs n)) a.tmps := by
      refine ⟨by simpa using h.env.size, fun x hx hx' => ?_⟩
      rw [List.getElem_set]
      split
      · rename_i e
        subst e
        rw [← hev, hrv]
        rcases hmk with ⟨h1, rfl⟩ | ⟨h1, rfl⟩
        · exact .sl _ b 0 n cap xs .ro f hlen hcell' hone' hxs (.inr (by simp only [g', M, if_true, Fl.mk]; rw [Nat.add_mul]; omega))
        · exact .undef _ _
      · rename_i e
        refine (h.env.val x hx (by simpa using hx')).mono st (slot_ne fun y p _ hy => keep y _ hy ?_)
        simp only [ne_eq, Root.slot.injEq]
        exact fun e' => e e'.symm
    refine E1.put ?_
    have hown : g'.ow b = some ⟨.slot d, []⟩ := by
      show (g.ow b).map _ = _
      rw [hw]
      simp [mv]
    refine .sl _ b 0 (n + m) cap (xs ++ ys) fl (fun i => if i < xs.length then f i else news.getD (i - xs.length) Go.undef) hroom (fun i hi => ?_) (fun i hi => ?_) (fun i hi => ?_) ?_
    · simp only [List.length_append] at hi
      split
      · rename_i hi'; exact hcell' i hi'
      · rename_i hi'
        have := hin (i - xs.length) (by omega)
        rw [show 0 + n * es + (i - xs.length) = 0 + i by omega] at this
        rw [this]
        simp [List.getD_eq_getElem?_getD, List.getElem?_eq_getElem (show i - xs.length < news.length by omega)]
    · simp only [List.length_append] at hi
      split
      · rename_i hi'; exact hone' i hi'
      · rename_i hi'
        have hj : i - xs.length < news.length := by omega
        simp only [List.getD_eq_getElem?_getD, List.getElem?_eq_getElem hj, Option.getD_some]
        exact hone _ (List.getElem_mem hj)
    · simp only [List.length_append] at hi
      split
      · rename_i hi'
        rw [List.getElem_append_left hi']
        exact hxs i hi'
      · rename_i hi'
        have hj : i - xs.length < news.length := by omega
        rw [List.getElem_append_right (by omega)]
        simp only [List.getD_eq_getElem?_getD, List.getElem?_eq_getElem hj, Option.getD_some]
        exact (hx _ hj (by omega)).mono st (KeepRoot.none _ _ _ _)
    · have hG : Gro (w.setCells b (0 + n * es) news) b cap es := ⟨cur', E, lo, hi, hb', by omega, by omega, hcm⟩
      have hlen2 : (xs ++ ys).length = (n + m) * es := by rw [List.length_append, Nat.add_mul]; omega
      rcases hmk with ⟨h1, rfl⟩ | ⟨h1, rfl⟩
      · exact ⟨⟨_, rfl, hown⟩, rfl, hlen2, by simp only [g', M, if_true, Fl.mk]; exact hlen2.symm, hG⟩
      · exact ⟨⟨_, rfl, hown⟩, rfl, hlen2, by simp [g', M, Fl.mk], hG⟩

/-- What a slot owned alone goes into a call, and comes back as something else. -/
theorem Rel.repl (h : Rel g0 w0 g s a w) {t d : Nat} {xs ys : List SV} {n m es cap b : Nat} (ht : s.get t = .sl xs n (.excl es)) (htd : t ≠ d) (hrv : a.eval (.tmp t) = .slice (some ⟨b, 0, none⟩) n cap)
    {w' : World} (ho : w'.os = w.os) (htp : w'.tape = w.tape) (hu : w'.output = w.output) (hsz : w.heap.size ≤ w'.heap.size) (hkeep : ∀ k, k < w.heap.size → k ≠ b → w'.heap[k]? = w.heap[k]?)
    {b' cap' : Nat} {F' : Nat → Value} (hb' : b' = b ∨ w.heap.size ≤ b') (hle : m ≤ cap') (hgro : Gro w' b' cap' es) (hyl : ys.length = m * es)
    (hy : ∀ i (h : i < ys.length), w'.cell? ⟨b', 0 + i, none⟩ = some (F' i) ∧ (F' i).oneCell' = true ∧ V g w none (F' i) (ys[i]'h)) :
    ∃ g', Rel g0 w0 g' { s with env := (s.env.set t .undef).set d (.sl ys m (.excl es)) } (a.put (some d) (.slice (some ⟨b', 0, none⟩) m cap')) w' := by
  obtain ⟨hlt, hg⟩ := get_lt ht (by simp)
  have hlt' : t < a.tmps.size := by rw [h.env.size]; exact hlt
  have hev : a.eval (.tmp t) = a.tmps[t] := by simp [Act.eval, hlt']
  have hvt := h.env.val t hlt' hlt
  rw [hg, ← hev, hrv] at hvt
  cases hvt with
  | slz _ ad fl hf => rcases hf with h | h <;> cases h
  | sl _ _ _ _ _ _ _ f hlen hcell hone' hxx hf =>
    obtain ⟨⟨q, hq, hw⟩, _, h2, h3, h4⟩ := hf
    cases hq
    have hbs : b < w.heap.size := by
      obtain ⟨cur, E, lo, hi, hb, _⟩ := h4
      exact (Array.getElem?_eq_some_iff.1 hb).1
    let g' : Gh := { g with mark := fun x => if x = b' then 0 else g.mark x, ow := fun x => if x = b' then some ⟨.slot d, []⟩ else g.ow x }
    have hne : ∀ x, x < w.heap.size → x ≠ b → x ≠ b' := by
      intro x hx hxb e
      subst e
      rcases hb' with e | e
      · exact hxb e
      · omega
    have st : St g w g' w' := by
      refine ⟨ho, htp, hu, hsz, fun x i hx hi => ?_, fun x hx => ?_, fun _ _ h => h⟩
      · have hxb : x ≠ b := by rintro rfl; omega
        unfold World.cell?
        rw [show w'.heap[x]? = w.heap[x]? from hkeep x hx hxb]
      · show g.mark x ≤ if x = b' then 0 else g.mark x
        split
        · rename_i e
          subst e
          rcases hb' with e | e
          · rw [e, h3]; exact Nat.le_refl _
          · omega
        · exact Nat.le_refl _
    have keep : ∀ x q, x < w.heap.size → g.ow x = some q → q.root ≠ .slot t → Keep g w g' w' x := by
      intro x q hx hq hr
      have hxb : x ≠ b := by rintro rfl; rw [hw] at hq; cases hq; exact hr rfl
      have hxb' := hne x hx hxb
      exact ⟨by simp [g', hxb'], by simp [g', hxb'], hkeep x hx hxb⟩
    have fr : Fr g w g' w' := by
      refine ⟨st, fun x hx hxo => ?_⟩
      have hxb : x ≠ b := by rintro rfl; exact hxo ⟨_, hw, by simp⟩
      have hxb' := hne x hx hxb
      exact ⟨by simp [g', hxb'], by simp [g', hxb'], hkeep x hx hxb⟩
    refine ⟨g', h.fr.trans fr, h.inv.mono st rfl (fun id x hi => keep x _ (h.inv.obj id x hi).1 (h.inv.obj id x hi).2.2 (by simp)) (fun id i => cell_ne fun x p hx hxo => keep x _ hx hxo (by simp)), ?_, h.defers⟩
    have E1 : EnvOk g' w' (s.env.set t .undef) a.tmps := by
      refine ⟨by simpa using h.env.size, fun x hx hx' => ?_⟩
      rw [List.getElem_set]
      split
      · exact .undef _ _
      · rename_i e
        refine (h.env.val x hx (by simpa using hx')).mono st (slot_ne fun y p hy hyo => keep y _ hy hyo ?_)
        simp only [ne_eq, Root.slot.injEq]
        exact fun e' => e e'.symm
    refine E1.put ?_
    refine .sl _ b' 0 m cap' ys (.excl es) F' hle (fun i hi => (hy i hi).1) (fun i hi => (hy i hi).2.1) (fun i hi => (hy i hi).2.2.mono st (KeepRoot.none _ _ _ _)) ?_
    exact ⟨⟨_, rfl, by simp [g']⟩, rfl, hyl, by simp [g'], hgro⟩

/-- A call hands back something new that nobody else has. -/
theorem Rel.fresh (h : Rel g0 w0 g s a w) {t d : Nat} {ys : List SV} {m es : Nat}
    {w' : World} (ho : w'.os = w.os) (htp : w'.tape = w.tape) (hu : w'.output = w.output) (hsz : w.heap.size ≤ w'.heap.size) (hkeep : ∀ k, k < w.heap.size → w'.heap[k]? = w.heap[k]?)
    {b' cap' : Nat} {F' : Nat → Value} (hb' : w.heap.size ≤ b') (hle : m ≤ cap') (hgro : Gro w' b' cap' es) (hyl : ys.length = m * es)
    (hy : ∀ i (h : i < ys.length), w'.cell? ⟨b', 0 + i, none⟩ = some (F' i) ∧ (F' i).oneCell' = true ∧ V g w none (F' i) (ys[i]'h)) :
    ∃ g', Rel g0 w0 g' { s with env := (s.env.set t .undef).set d (.sl ys m (.excl es)) } (a.put (some d) (.slice (some ⟨b', 0, none⟩) m cap')) w' := by
  let g' : Gh := { g with mark := fun x => if x = b' then 0 else g.mark x, ow := fun x => if x = b' then some ⟨.slot d, []⟩ else g.ow x }
  have hne : ∀ x, x < w.heap.size → x ≠ b' := by intro x hx e; omega
  have keep : ∀ x, x < w.heap.size → Keep g w g' w' x := fun x hx => ⟨by simp [g', hne x hx], by simp [g', hne x hx], hkeep x hx⟩
  have st : St g w g' w' := by
    refine ⟨ho, htp, hu, hsz, fun x i hx hi => ?_, fun x hx => ?_, fun _ _ h => h⟩
    · unfold World.cell?
      rw [show w'.heap[x]? = w.heap[x]? from hkeep x hx]
    · exact Nat.le_of_eq (keep x hx).mark.symm
  have fr : Fr g w g' w' := ⟨st, fun x hx _ => keep x hx⟩
  refine ⟨g', h.fr.trans fr, h.inv.mono st rfl (fun id x hi => keep x (h.inv.obj id x hi).1) (fun id i => cell_ne fun x p hx _ => keep x hx), ?_, h.defers⟩
  have E1 : EnvOk g' w' (s.env.set t .undef) a.tmps := by
    refine ⟨by simpa using h.env.size, fun x hx hx' => ?_⟩
    rw [List.getElem_set]
    split
    · exact .undef _ _
    · exact (h.env.val x hx (by simpa using hx')).mono st (slot_ne fun y p hy _ => keep y hy)
  refine E1.put ?_
  refine .sl _ b' 0 m cap' ys (.excl es) F' hle (fun i hi => (hy i hi).1) (fun i hi => (hy i hi).2.1) (fun i hi => (hy i hi).2.2.mono st (KeepRoot.none _ _ _ _)) ?_
  exact ⟨⟨_, rfl, by simp [g']⟩, rfl, hyl, by simp [g'], hgro⟩

end
end Go.Sh
