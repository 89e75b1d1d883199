/-
  Rows of cells wherever they lie, objects behind a state's end, rows of numbers, in the shadow machine.
-/
import Derived.Test.YtihhaeklacphbaaDoorShLb
set_option linter.unusedSimpArgs false
set_option linter.unusedVariables false
namespace Go.Sh
section
variable {st : List Ob} {l : List Ob} {i : Nat} {x : List SV}
theorem getA0 : (st ++ l)[st.length]? = l[0]? := by rw [List.getElem?_append_right (Nat.le_refl _), Nat.sub_self]
theorem getA : (st ++ l)[st.length + i]? = l[i]? := by rw [List.getElem?_append_right (by omega), Nat.add_sub_cancel_left]
theorem setA0 : setOb (st ++ l) st.length x = st ++ l.set 0 (.cells x) := by
  unfold setOb; rw [List.set_append_right _ _ (Nat.le_refl _), Nat.sub_self]
theorem setA : setOb (st ++ l) (st.length + i) x = st ++ l.set i (.cells x) := by
  unfold setOb; rw [List.set_append_right _ _ (by omega), Nat.add_sub_cancel_left]
theorem lenA : (st ++ l).length = st.length + l.length := List.length_append
end
def RowAt (st : List Ob) (v : SV) (es n : Nat) (cs : List SV) : Prop :=
  cs.length = n * es ∧ ((v = .nilS ∧ n = 0) ∨ (∃ fl, (fl = .ro ∨ fl = .full) ∧ v = .sl cs n fl) ∨ ∃ id off l, v = .slo id off n ∧ st[id]? = some (.cells l) ∧ off + n * es ≤ l.length ∧ (l.drop off).take (n * es) = cs)
def adr (v : SV) (k : Nat) : SV := match v with | .sl xs _ _ => .elv xs k | .slo id off _ => .ptr id (off + k) | _ => .undef
section
variable {st : List Ob} {v : SV} {es n : Nat} {cs : List SV}
theorem RowAt.mono (h : RowAt st v es n cs) (x : List Ob) : RowAt (st ++ x) v es n cs := by
  obtain ⟨h1, h2 | h2 | ⟨id, off, l, h3, h4, h5⟩⟩ := h
  · exact ⟨h1, .inl h2⟩
  · exact ⟨h1, .inr (.inl h2)⟩
  · exact ⟨h1, .inr (.inr ⟨id, off, l, h3, by rw [List.getElem?_append_left (List.getElem?_eq_some_iff.1 h4).1]; exact h4, h5⟩)⟩
theorem RowAt.facts (h : RowAt st v es n cs) : ro v = v ∧ got v = v ∧ exc v = false ∧ flg v = false ∧ ro1 v = v ∧ isCell v = true := by
  obtain ⟨h1, ⟨rfl, _⟩ | ⟨fl, rfl | rfl, rfl⟩ | ⟨id, off, l, rfl, _⟩⟩ := h <;> exact ⟨rfl, rfl, rfl, rfl, rfl, rfl⟩
theorem RowAt.lenL (h : RowAt st v es n cs) (s2 : List Ob) : ev s2 .lenL [v] = some (.int .i64 n, [], s2) := by
  obtain ⟨h1, ⟨rfl, rfl⟩ | ⟨fl, _, rfl⟩ | ⟨id, off, l, rfl, _⟩⟩ := h
  · exact ev_lenN
  · exact ev_lenL
  · exact ev_lenO
theorem RowAt.idxB (h : RowAt st v es n cs) {i : Nat} (hi : i < n) (k : IntKind) (s2 : List Ob) : ev s2 (.idxB es) [v, .int k (i : Int)] = some (adr v (i * es), [], s2) := by
  obtain ⟨h1, ⟨rfl, rfl⟩ | ⟨fl, rfl | rfl, rfl⟩ | ⟨id, off, l, rfl, _⟩⟩ := h
  · omega
  · exact idxB_ro (by omega) (by omega) h1
  · exact idxB_full (by omega) (by omega) h1
  · exact idxB_O (by omega) (by omega)
theorem RowAt.idxA (h : RowAt st v es n cs) {i : Nat} (hi : i < n) (k : IntKind) (s2 : List Ob) : ev s2 (.idxA es) [v, .int k (i : Int)] = some (adr v (i * es), [], s2) := by
  obtain ⟨h1, ⟨rfl, rfl⟩ | ⟨fl, rfl | rfl, rfl⟩ | ⟨id, off, l, rfl, _⟩⟩ := h
  · omega
  · exact ev_idxA (by omega) (by omega) h1 rfl
  · exact ev_idxA (by omega) (by omega) h1 rfl
  · exact ev_idxO (by omega) (by omega)
theorem RowAt.fld (h : RowAt st v es n cs) (hn : 0 < n) (k o : Nat) (s2 : List Ob) : ev s2 (.fld o) [adr v k] = some (adr v (k + o), [], s2) := by
  obtain ⟨h1, ⟨rfl, rfl⟩ | ⟨fl, rfl | rfl, rfl⟩ | ⟨id, off, l, rfl, _⟩⟩ := h
  · omega
  · exact ev_fldE
  · exact ev_fldE
  · show ev s2 (.fld o) [.ptr id (off + k)] = some (.ptr id (off + (k + o)), [], s2)
    rw [ev_fld, Nat.add_assoc]
theorem RowAt.ld1 (h : RowAt st v es n cs) {k : Nat} {c : SV} (hk : cs[k]? = some c) (x : List Ob) : ev (st ++ x) (.load 1 false) [adr v k] = some (ro c, [], st ++ x) := by
  have hkl := (List.getElem?_eq_some_iff.1 hk).1
  obtain ⟨h1, ⟨rfl, rfl⟩ | ⟨fl, rfl | rfl, rfl⟩ | ⟨id, off, l, rfl, h2, h3, h4⟩⟩ := h
  · omega
  · show ev _ _ [.elv cs k] = _
    rw [ev_loadE, hk]; rfl
  · show ev _ _ [.elv cs k] = _
    rw [ev_loadE, hk]; rfl
  · show ev _ _ [.ptr id (off + k)] = _
    have e : (st ++ x)[id]? = some (.cells l) := by rw [List.getElem?_append_left (List.getElem?_eq_some_iff.1 h2).1]; exact h2
    have e2 : l[off + k]? = some c := by
      rw [← hk, ← h4, List.getElem?_take_of_lt (by omega), List.getElem?_drop]
    rw [ev_ldP, e, ldP_some, e2]; rfl
theorem RowAt.ldN (h : RowAt st v es n cs) {k m : Nat} (hk : k + m ≤ n * es) (hn : 0 < n) (x : List Ob) : ev (st ++ x) (.load m true) [adr v k] = some (ro (.agg ((cs.drop k).take m)), [], st ++ x) := by
  obtain ⟨h1, ⟨rfl, rfl⟩ | ⟨fl, rfl | rfl, rfl⟩ | ⟨id, off, l, rfl, h2, h3, h4⟩⟩ := h
  · omega
  · exact ev_ldE (by omega)
  · exact ev_ldE (by omega)
  · show ev _ _ [.ptr id (off + k)] = _
    have e : (st ++ x)[id]? = some (.cells l) := by rw [List.getElem?_append_left (List.getElem?_eq_some_iff.1 h2).1]; exact h2
    rw [ev_ldA, e, apO_some, if_pos (by omega)]
    congr 4
    rw [← h4, List.drop_take, List.take_take, List.drop_drop, Nat.min_eq_left (by omega)]
theorem RowAt.ld1' (h : RowAt st v es n cs) {k : Nat} {c : SV} (hk : cs[k]? = some c) : ev st (.load 1 false) [adr v k] = some (ro c, [], st) := by
  have := h.ld1 hk []
  rwa [List.append_nil] at this
theorem RowAt.nil : RowAt st .nilS es 0 [] := ⟨by simp, .inl ⟨rfl, rfl⟩⟩
theorem RowAt.idOk (h : RowAt st v es n cs) (hc : idOks st.length cs = true) : idOk st.length v = true := by
  obtain ⟨h1, ⟨rfl, _⟩ | ⟨fl, rfl | rfl, rfl⟩ | ⟨id, off, l, rfl, h2, _⟩⟩ := h
  · rfl
  · exact hc
  · exact hc
  · show decide (id < st.length) = true
    rw [decide_eq_true_eq]
    exact (List.getElem?_eq_some_iff.1 h2).1
end
def isv (l : List Int) : List SV := l.map (.int .i64)
theorem isv_len (l : List Int) : (isv l).length = l.length := by simp [isv]
theorem isv_at {l : List Int} {i : Nat} {x : Int} (h : l[i]? = some x) : (isv l)[i]? = some (.int .i64 x) := by simp [isv, h]
theorem isv_app (l m : List Int) : isv l ++ isv m = isv (l ++ m) := by simp [isv]
theorem isv_take (l : List Int) (n : Nat) : (isv l).take n = isv (l.take n) := by simp [isv, List.map_take]
theorem isv_drop (l : List Int) (n : Nat) : (isv l).drop n = isv (l.drop n) := by simp [isv, List.map_drop]
theorem idOks_isv (k : Nat) (l : List Int) : idOks k (isv l) = true := by
  induction l with
  | nil => rfl
  | cons x l ih => simp only [isv, List.map_cons, idOks, idOk, Bool.true_and] at ih ⊢; exact ih
def RowI (st : List Ob) (v : SV) (l : List Int) : Prop := RowAt st v 1 l.length (isv l)
theorem RowI.mk {st : List Ob} {l : List Int} {n : Nat} {fl : Fl} (hf : fl = .ro ∨ fl = .full) (hn : n = l.length) : RowI st (.sl (isv l) n fl) l := by
  subst hn
  exact ⟨by rw [isv_len, Nat.mul_one], .inr (.inl ⟨fl, hf, rfl⟩)⟩
theorem RowI.nil (st : List Ob) : RowI st .nilS [] := RowAt.nil
theorem RowI.idOk {st : List Ob} {v : SV} {l : List Int} (h : RowI st v l) : idOk st.length v = true := RowAt.idOk h (idOks_isv _ _)
theorem flat_len {α : Type} {f : α → List SV} {m : Nat} {l : List α} (h : ∀ z ∈ l, (f z).length = m) : (l.flatMap f).length = l.length * m := by
  induction l with
  | nil => simp
  | cons z l ih =>
    rw [List.flatMap_cons, List.length_append, ih (fun y hy => h y (List.mem_cons_of_mem _ hy)), h z List.mem_cons_self, List.length_cons, Nat.succ_mul]; omega
theorem flat_get {α : Type} {f : α → List SV} {m : Nat} : ∀ {l : List α}, (∀ z ∈ l, (f z).length = m) → ∀ {i j : Nat} {z : α}, l[i]? = some z → j < m → (l.flatMap f)[i * m + j]? = (f z)[j]?
  | [], _, i, j, z, hz, _ => by simp at hz
  | y :: l, h, i, j, z, hz, hj => by
    rw [List.flatMap_cons]
    cases i with
    | zero =>
      simp at hz; subst hz
      rw [List.getElem?_append_left (by rw [h y List.mem_cons_self]; omega)]; simp
    | succ i =>
      rw [List.getElem?_append_right (by rw [h y List.mem_cons_self, Nat.succ_mul]; omega), h y List.mem_cons_self, show (i + 1) * m + j - m = i * m + j by rw [Nat.succ_mul]; omega]
      exact flat_get (fun x hx => h x (List.mem_cons_of_mem _ hx)) (by simpa using hz) hj
theorem flat_part {α : Type} {f : α → List SV} {m : Nat} : ∀ {l : List α}, (∀ z ∈ l, (f z).length = m) → ∀ {i : Nat} {z : α}, l[i]? = some z → ((l.flatMap f).drop (i * m)).take m = f z
  | [], _, i, z, hz => by simp at hz
  | y :: l, h, i, z, hz => by
    rw [List.flatMap_cons]
    cases i with
    | zero =>
      simp at hz; subst hz
      rw [Nat.zero_mul, List.drop_zero, List.take_append_of_le_length (by rw [h y List.mem_cons_self]; omega), List.take_of_length_le (by rw [h y List.mem_cons_self]; omega)]
    | succ i =>
      rw [Nat.succ_mul, Nat.add_comm, ← List.drop_drop, List.drop_append_of_le_length (by rw [h y List.mem_cons_self]; omega), show (f y).drop m = [] from List.drop_of_length_le (by rw [h y List.mem_cons_self]; omega), List.nil_append]
      exact flat_part (fun x hx => h x (List.mem_cons_of_mem _ hx)) (by simpa using hz)
theorem rdR_row {α : Type} {f : α → List SV} {m : Nat} {v : SV} {l : List α} (h : rdR f v l) (hm : ∀ z ∈ l, (f z).length = m) (st : List Ob) : RowAt st v m l.length (l.flatMap f) := by
  rcases h with ⟨rfl, rfl⟩ | rfl
  · exact RowAt.nil
  · exact ⟨flat_len hm, .inr (.inl ⟨.ro, .inl rfl, rfl⟩)⟩
def StC (p : List Ob → List SV → SV → Prop) : List SV → List Ob → SV → List Ob → Prop := fun args st r st' => st' = st ∧ p st args r
theorem Sound.addS {P : Program} {O : Orc} (hS : Sound P O) {f : FuncId} {sf : SF} {p : List Ob → List SV → SV → Prop} (hf : cFunc P f = some sf) (hp : plainB P f = true)
    (h : ∀ args r st, p st args r → args.length ≤ sf.nt ∧ swpF O sf args st fun r' st' => r' = r ∧ st' = st) : Sound P (O.add f (StC p)) :=
  hS.add hf hp (by rintro args st r st' ⟨rfl, h1⟩; exact h args r _ h1)
theorem st_aggA {st l : List Ob} {i n : Nat} {c xs : List SV} {b : Bool} (hl : l[i]? = some (.cells c)) (h1 : xs.map ro1 = xs) (h2 : xs.all isCell = true) (hn : xs.length = n) (hc : c.length = n) :
    ev (st ++ l) (.store n b) [.ptr (st.length + i) 0, .agg xs] = some (.undef, [], st ++ l.set i (.cells xs)) := by
  have e1 : Sh.ro (.agg xs) = .agg xs := by show SV.agg (xs.map ro1) = _; rw [h1]
  have e2 : Sh.got (.agg xs) = .agg xs := e1
  have e3 : wrCells c 0 xs = xs := by
    rw [wrCells_eq _ _ _ (by omega), List.take_zero, List.drop_eq_nil_of_le (by omega)]; simp
  have e4 : (cellsV (.agg xs)).length = n ∧ 0 + n ≤ c.length ∧ (cellsV (.agg xs)).all isCell := ⟨hn, by omega, h2⟩
  have e5 : (st ++ l)[st.length + i]? = some (.cells c) := by rw [getA]; exact hl
  have e6 : setOb (st ++ l) (st.length + i) xs = st ++ l.set i (.cells xs) := setA
  cases b with
  | true =>
    show (match (st ++ l)[st.length + i]? with | some (.cells l) => _ | _ => none) = _
    rw [e5]
    simp only [flg, Bool.false_eq_true, if_false, e1]
    rw [if_pos e4]
    simp only [cellsV, e3, e6]
  | false =>
    show (match (st ++ l)[st.length + i]? with | some (.cells l) => _ | _ => none) = _
    rw [e5]
    simp only [e2]
    rw [if_pos e4]
    simp only [cellsV, e3, e6]; rfl
theorem okSt_appL {st x : List Ob} (h : okSt st) (hx : x.all (obOk (st.length + x.length)) = true) : okSt (st ++ x) := by
  unfold okSt at *
  rw [List.all_append, Bool.and_eq_true, List.length_append]
  refine ⟨?_, hx⟩
  rw [List.all_eq_true] at *
  intro o ho
  have := h o ho
  cases o with
  | cells l => exact idOks_mono (Nat.le_add_right _ _) l this
  | map l =>
    simp only [obOk, List.all_eq_true, Bool.and_eq_true] at this ⊢
    intro p hp
    exact ⟨idOk_mono (Nat.le_add_right _ _) _ (this p hp).1, idOk_mono (Nat.le_add_right _ _) _ (this p hp).2⟩
end Go.Sh
