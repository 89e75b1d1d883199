/-
  The shadow machine, part Mp: structs held against each other, and maps.
-/
import Derived.Test.YtihhaeklacphbaaDoorShO
import Derived.Laws.StructEq
import Derived.MapKept
import Derived.ChangeKeysEq
set_option linter.unusedSimpArgs false
set_option linter.unusedVariables false
namespace Go.Sh

section
variable {P : Program} {g0 : Gh} {w0 : World} {g : Gh} {w : World} {s : S} {a : Act} {o : Oper}

theorem mapM_get {α β : Type} {f : α → Option β} : ∀ {l : List α} {r : List β}, l.mapM f = some r → r.length = l.length ∧ ∀ i (h : i < r.length) (h' : i < l.length), f (l[i]'h') = some (r[i]'h)
  | [], r, h => by simp at h; subst h; exact ⟨rfl, fun i h => by simp at h⟩
  | x :: l, r, h => by
    simp only [List.mapM_cons, Option.bind_eq_bind, Option.bind_eq_some_iff, Option.pure_def, Option.some.injEq] at h
    obtain ⟨y, h1, r', h2, rfl⟩ := h
    obtain ⟨h3, h4⟩ := mapM_get h2
    refine ⟨by simp [h3], fun i hi hi' => ?_⟩
    cases i with
    | zero => exact h1
    | succ i => exact h4 i (by simpa using hi) (by simpa using hi')

theorem bytes_beq (x y : ByteArray) : (x == y) = (x.data.toList == y.data.toList) := by
  rw [beq_toListBytes, toList_eq, toList_eq]

theorem kindOf_inv {t : TypeId} {k : KK} (h : kindOf P t = some k) : (k = .b ∧ P.underlying t = some .bool) ∨ (k = .i ∧ ∃ d, P.underlying t = some (.int d)) ∨ (k = .s ∧ P.underlying t = some .string) := by
  unfold kindOf at h
  split at h
  · rename_i hu; cases h; exact .inl ⟨rfl, hu⟩
  · rename_i d hu; cases h; exact .inr (.inl ⟨rfl, d, hu⟩)
  · rename_i hu; cases h; exact .inr (.inr ⟨rfl, hu⟩)
  · cases h

/-- Plain cells that can be held against each other. -/
theorem eqK_inv {k : KK} {x y : SV} {b : Bool} (h : eqK k x y = some b) : (k = .i ∧ ∃ d m n, x = .int d m ∧ y = .int d n ∧ b = (m == n)) ∨ (k = .b ∧ ∃ m n, x = .bool m ∧ y = .bool n ∧ b = (m == n)) ∨ (k = .s ∧ ∃ m n, x = .str m ∧ y = .str n ∧ b = (m == n)) := by
  unfold eqK at h
  split at h
  · split at h
    · rename_i e; subst e; cases h; exact .inl ⟨rfl, _, _, _, rfl, rfl, rfl⟩
    · cases h
  · cases h; exact .inr (.inl ⟨rfl, _, _, rfl, rfl, rfl⟩)
  · cases h; exact .inr (.inr ⟨rfl, _, _, rfl, rfl, rfl⟩)
  · cases h

theorem eqK_run {t : TypeId} {k : KK} (hk : kindOf P t = some k) {v v' : Value} {x y : SV} {b : Bool} {o1 o2 : Option Owner} (hv : V g w o1 v x) (hv' : V g w o2 v' y) (h : eqK k x y = some b) (d : Nat) : (Op.equalIn (d + 1) t v v').run P w = .ok b w := by
  rcases eqK_inv h with ⟨rfl, e, m, n, rfl, rfl, rfl⟩ | ⟨rfl, m, n, rfl, rfl, rfl⟩ | ⟨rfl, m, n, rfl, rfl, rfl⟩
  · rcases kindOf_inv hk with ⟨h1, _⟩ | ⟨_, d', hu⟩ | ⟨h1, _⟩
    · cases h1
    · rw [hv.int_inv, hv'.int_inv]; exact run_equalIn_int w d t e d' m n hu
    · cases h1
  · rcases kindOf_inv hk with ⟨_, hu⟩ | ⟨h1, _⟩ | ⟨h1, _⟩
    · rw [hv.bool_inv, hv'.bool_inv]; exact run_equalIn_bool' w d t m n hu
    · cases h1
    · cases h1
  · rcases kindOf_inv hk with ⟨h1, _⟩ | ⟨h1, _⟩ | ⟨_, hu⟩
    · cases h1
    · cases h1
    · obtain ⟨s1, rfl, rfl⟩ := hv.str_inv
      obtain ⟨s2, rfl, rfl⟩ := hv'.str_inv
      rw [run_equalIn_string w d t s1 s2 hu, toList_eq, toList_eq]

/-- The shape of a plain struct. -/
theorem structKs_inv {t : TypeId} {ks : List KK} (h : structKs P t = some ks) : ∃ fs, P.underlying t = some (.struct fs) ∧ P.stoodInHeld t = false ∧ P.eqGuardType P.depth t = false ∧ ks.length = fs.toList.length ∧
    ∀ i (hi : i < fs.toList.length) (hi' : i < ks.length), fs.toList[i].name ≠ "_" ∧ sz P fs.toList[i].type = some 1 ∧ fs.toList[i].offset = i ∧ kindOf P fs.toList[i].type = some (ks[i]'hi') := by
  unfold structKs at h
  split at h
  · rename_i fs hu
    split at h
    · rename_i hc
      simp only [Bool.and_eq_true, Bool.not_eq_true', beq_iff_eq] at hc
      obtain ⟨⟨⟨h1, h2⟩, h3⟩, h4⟩ := hc
      obtain ⟨hl, hg⟩ := mapM_get h
      refine ⟨fs, hu, h3, h4, hl, fun i hi hi' => ?_⟩
      have hfi := (Array.all_eq_true.1 h1) i (by simpa using hi)
      simp only [Bool.and_eq_true, decide_eq_true_eq, beq_iff_eq] at hfi
      have ho : (fs.toList.map (·.offset))[i]? = (List.range fs.size)[i]? := by rw [h2]
      have hi2 : i < fs.size := by simpa using hi
      rw [List.getElem?_map, List.getElem?_eq_getElem hi, List.getElem?_eq_getElem (by simpa using hi2)] at ho
      simp only [Option.map_some, List.getElem_range, Option.some.injEq] at ho
      exact ⟨by simpa using hfi.1, by simpa using hfi.2, ho, hg i hi' hi⟩
    · cases h
  · cases h

theorem part_plain {t : TypeId} {k : KK} (hk : kindOf P t = some k) (hn : sz P t = some 1) {cs : Array Value} {xs : List SV} (hl : cs.size = xs.length) {ow : Option Owner} (hone : ∀ i (h : i < cs.size), (cs[i]'h).oneCell' = true)
    (hx : ∀ i (h : i < cs.size) (h' : i < xs.length), V g w (Owner.sub ow i) (cs[i]'h) (xs[i]'h')) {off : Nat} (ho : off < xs.length) : ∃ rv, (part t cs off).run P w = .ok rv w ∧ ∃ o', V g w o' rv (xs[off]'ho) := by
  have hna : isAgg P t = false := by
    rcases kindOf_inv hk with ⟨_, hu⟩ | ⟨_, d, hu⟩ | ⟨_, hu⟩ <;> simp [Sh.isAgg, hu]
  obtain ⟨d, hd⟩ := sz_und hn
  refine ⟨cs[off]'(by omega), ?_, _, hx off (by omega) ho⟩
  unfold part
  simp only [Sem.run_bind, run_isAgg hd, Result.andThen_ok, hna]
  simp [show off < cs.size by omega]

theorem eqKs_run : ∀ (fs : List Field) (ks : List KK) (j : Nat) {cs ds : Array Value} {xs ys : List SV} {o1 o2 : Option Owner} {b : Bool}, ks.length = fs.length →
    (∀ i (hi : i < fs.length) (hi' : i < ks.length), fs[i].name ≠ "_" ∧ sz P fs[i].type = some 1 ∧ fs[i].offset = j + i ∧ kindOf P fs[i].type = some (ks[i]'hi')) →
    cs.size = xs.length → ds.size = ys.length → (∀ i (h : i < cs.size), (cs[i]'h).oneCell' = true) → (∀ i (h : i < ds.size), (ds[i]'h).oneCell' = true) →
    (∀ i (h : i < cs.size) (h' : i < xs.length), V g w (Owner.sub o1 i) (cs[i]'h) (xs[i]'h')) → (∀ i (h : i < ds.size) (h' : i < ys.length), V g w (Owner.sub o2 i) (ds[i]'h) (ys[i]'h')) →
    eqKs ks (xs.drop j) (ys.drop j) = some b → ∀ d, (Op.eqFields (d + 1) cs ds fs).run P w = .ok b w
  | [], [], j, cs, ds, xs, ys, o1, o2, b, _, _, _, _, _, _, _, _, h, d => by
    have : b = true := by
      unfold eqKs at h
      split at h
      · cases h; rfl
      · rename_i he _ _; cases he
      · cases h
    subst this
    rfl
  | f :: fs, k :: ks, j, cs, ds, xs, ys, o1, o2, b, hl, hf, h1, h2, h3, h4, h5, h6, h, d => by
    obtain ⟨hn, hs, ho, hk⟩ := hf 0 (by simp) (by simp)
    simp only [List.getElem_cons_zero, Nat.add_zero] at hn hs ho hk
    have hjx : j < xs.length := by
      rcases Nat.lt_or_ge j xs.length with h' | h'
      · exact h'
      · rw [List.drop_of_length_le h'] at h; simp [eqKs] at h
    have hjy : j < ys.length := by
      rcases Nat.lt_or_ge j ys.length with h' | h'
      · exact h'
      · rw [List.drop_of_length_le h', List.drop_eq_getElem_cons hjx] at h; simp [eqKs] at h
    rw [List.drop_eq_getElem_cons hjx, List.drop_eq_getElem_cons hjy] at h
    simp only [eqKs, Option.bind_eq_some_iff] at h
    obtain ⟨b0, hb0, h⟩ := h
    obtain ⟨r1, hr1, q1, v1⟩ := part_plain (P := P) hk hs h1 h3 h5 hjx
    obtain ⟨r2, hr2, q2, v2⟩ := part_plain (P := P) hk hs h2 h4 h6 hjy
    have he := eqK_run hk v1 v2 hb0 d
    simp only [Op.eqFields]
    rw [if_pos hn]
    simp only [Sem.run_bind, ho, hr1, hr2, Result.andThen_ok, he]
    cases b0 with
    | false =>
      simp only [Bool.false_eq_true, if_false, Option.some.injEq] at h
      subst h
      simp
    | true =>
      simp only [if_true] at h
      simp only [Bool.not_true, Bool.false_eq_true, if_false]
      refine eqKs_run fs ks (j + 1) (by simpa using hl) (fun i hi hi' => ?_) h1 h2 h3 h4 h5 h6 h d
      have := hf (i + 1) (by simp; omega) (by simp; omega)
      simp only [List.getElem_cons_succ] at this
      exact ⟨this.1, this.2.1, by rw [this.2.2.1]; omega, this.2.2.2⟩
  | [], _ :: _, _, _, _, _, _, _, _, _, hl, _, _, _, _, _, _, _, _, _ => by simp at hl
  | _ :: _, [], _, _, _, _, _, _, _, _, hl, _, _, _, _, _, _, _, _, _ => by simp at hl

/-- Two plain structs. -/
theorem struct_run {t : TypeId} {ks : List KK} (hk : structKs P t = some ks) {v v' : Value} {xs ys : List SV} {o1 o2 : Option Owner} {b : Bool} (hv : V g w o1 v (.agg xs)) (hv' : V g w o2 v' (.agg ys)) (h : eqKs ks xs ys = some b) (d : Nat) :
    ∃ cs ds, v = .agg cs ∧ v' = .agg ds ∧ (Op.equalIn (d + 2) t (.agg cs) (.agg ds)).run P w = .ok b w := by
  obtain ⟨fs, hu, hsi, _, hl, hf⟩ := structKs_inv hk
  obtain ⟨cs, rfl, c1, c2, c3⟩ := hv.agg_inv
  obtain ⟨ds, rfl, d1, d2, d3⟩ := hv'.agg_inv
  refine ⟨cs, ds, rfl, rfl, ?_⟩
  have hfo : P.fieldsOf t = fs := by simp [Program.fieldsOf, hu]
  rw [run_equalIn_struct w (d + 1) t cs ds (by rw [hfo]; exact hu) hsi, hfo]
  exact eqKs_run fs.toList ks 0 hl (fun i hi hi' => by obtain ⟨e1, e2, e3, e4⟩ := hf i hi hi'; exact ⟨e1, e2, by omega, e4⟩) c1 d1 c2 d2 c3 d3 (by simpa using h) d

theorem pv_eqA {neq : Bool} {t u : TypeId} {x y : Operand} {ks : List KK} {sx sy r : SV} {st : List Ob} {o1 o2 : Option Owner} (ho : o.op = .binOp (if neq then .neq else .eql) t x y u) (hk : structKs P t = some ks)
    (hx : V g w o1 (a.eval x) sx) (hy : V g w o2 (a.eval y) sy) (h : pv st (.eqA neq ks) [sx, sy] = some r) : PvOk P g w a o r := by
  cases sx <;> cases sy <;> simp only [pv, reduceCtorEq, Option.map_eq_some_iff] at h
  obtain ⟨b, hb, rfl⟩ := h
  obtain ⟨cs, ds, hc, hd, hr⟩ := struct_run hk hx hy hb 9998
  obtain ⟨_, _, _, hg, _⟩ := structKs_inv hk
  refine ⟨.bool (if neq then !b else b), ?_, .bool _ _⟩
  cases neq with
  | true =>
    have h1 := run_neq_struct (P := P) w t cs ds
    rw [hr] at h1
    simp only [execOp, ho, if_true, Sem.run_bind, hc, hd, run_eqGuard_agg w .neq t x y cs ds hg, Result.andThen_ok, h1]
    simp
  | false =>
    have h1 := run_eql_struct (P := P) w t cs ds
    rw [hr] at h1
    simp only [execOp, ho, Bool.false_eq_true, if_false, Sem.run_bind, hc, hd, run_eqGuard_agg w .eql t x y cs ds hg, Result.andThen_ok, h1]
    simp

/-- Two plain arrays. -/
theorem arrKs_inv {t : TypeId} {ks : List KK} (h : arrKs P t = some ks) : ∃ n e k, P.underlying t = some (.array n e) ∧ sz P e = some 1 ∧ P.eqGuardType P.depth t = false ∧ kindOf P e = some k ∧ ks = List.replicate n k := by
  unfold arrKs at h
  split at h
  · rename_i n e hu
    split at h
    · rename_i hc
      simp only [Bool.and_eq_true, Bool.not_eq_true', beq_iff_eq] at hc
      simp only [Option.map_eq_some_iff] at h
      obtain ⟨k, hk, rfl⟩ := h
      exact ⟨n, e, k, hu, hc.1, hc.2, hk, rfl⟩
    · cases h
  · cases h

theorem eqItems_run {e : TypeId} {k : KK} (hk : kindOf P e = some k) (hs : sz P e = some 1) {cs ds : Array Value} {xs ys : List SV} {o1 o2 : Option Owner}
    (h1 : cs.size = xs.length) (h2 : ds.size = ys.length) (h3 : ∀ i (h : i < cs.size), (cs[i]'h).oneCell' = true) (h4 : ∀ i (h : i < ds.size), (ds[i]'h).oneCell' = true)
    (h5 : ∀ i (h : i < cs.size) (h' : i < xs.length), V g w (Owner.sub o1 i) (cs[i]'h) (xs[i]'h')) (h6 : ∀ i (h : i < ds.size) (h' : i < ys.length), V g w (Owner.sub o2 i) (ds[i]'h) (ys[i]'h')) (d : Nat) :
    ∀ (n j : Nat) {b : Bool}, eqKs (List.replicate n k) (xs.drop j) (ys.drop j) = some b → (Op.eqItems (d + 1) e 1 cs ds (List.range' j n)).run P w = .ok b w
  | 0, j, b, h => by
    have : b = true := by
      unfold eqKs at h
      split at h
      · cases h; rfl
      · rename_i he _ _; cases he
      · cases h
    subst this
    rfl
  | n + 1, j, b, h => by
    rw [List.replicate_succ] at h
    have hjx : j < xs.length := by
      rcases Nat.lt_or_ge j xs.length with h' | h'
      · exact h'
      · rw [List.drop_of_length_le h'] at h; simp [eqKs] at h
    have hjy : j < ys.length := by
      rcases Nat.lt_or_ge j ys.length with h' | h'
      · exact h'
      · rw [List.drop_of_length_le h', List.drop_eq_getElem_cons hjx] at h; simp [eqKs] at h
    rw [List.drop_eq_getElem_cons hjx, List.drop_eq_getElem_cons hjy] at h
    simp only [eqKs, Option.bind_eq_some_iff] at h
    obtain ⟨b0, hb0, h⟩ := h
    obtain ⟨r1, hr1, q1, v1⟩ := part_plain (P := P) hk hs h1 h3 h5 hjx
    obtain ⟨r2, hr2, q2, v2⟩ := part_plain (P := P) hk hs h2 h4 h6 hjy
    have he := eqK_run hk v1 v2 hb0 d
    rw [List.range'_succ]
    simp only [Op.eqItems, Sem.run_bind, Nat.mul_one, hr1, hr2, Result.andThen_ok, he]
    cases b0 with
    | false =>
      simp only [Bool.false_eq_true, if_false, Option.some.injEq] at h
      subst h
      simp
    | true =>
      simp only [if_true] at h
      simp only [Bool.not_true, Bool.false_eq_true, if_false]
      exact eqItems_run hk hs h1 h2 h3 h4 h5 h6 d n (j + 1) h

theorem arr_run {t : TypeId} {ks : List KK} (hk : arrKs P t = some ks) {v v' : Value} {xs ys : List SV} {o1 o2 : Option Owner} {b : Bool} (hv : V g w o1 v (.agg xs)) (hv' : V g w o2 v' (.agg ys)) (h : eqKs ks xs ys = some b) (d : Nat) :
    ∃ cs ds, v = .agg cs ∧ v' = .agg ds ∧ (Op.equalIn (d + 2) t (.agg cs) (.agg ds)).run P w = .ok b w := by
  obtain ⟨n, e, k, hu, hs, _, he, rfl⟩ := arrKs_inv hk
  obtain ⟨cs, rfl, c1, c2, c3⟩ := hv.agg_inv
  obtain ⟨ds, rfl, d1, d2, d3⟩ := hv'.agg_inv
  refine ⟨cs, ds, rfl, rfl, ?_⟩
  have hs' := hs
  unfold sz at hs
  split at hs
  · obtain ⟨i, hi, hi2⟩ := Option.map_eq_some_iff.1 hs
    rw [run_equalIn_array w (d + 1) cs ds hu hi, List.range_eq_range', show P.cellsOf e = 1 by simp [Program.cellsOf, hi, hi2]]
    exact eqItems_run he hs' c1 d1 c2 d2 c3 d3 d n 0 (by simpa using h)
  · cases hs

theorem pv_eqR {neq : Bool} {t u : TypeId} {x y : Operand} {ks : List KK} {sx sy r : SV} {st : List Ob} {o1 o2 : Option Owner} (ho : o.op = .binOp (if neq then .neq else .eql) t x y u) (hk : arrKs P t = some ks)
    (hx : V g w o1 (a.eval x) sx) (hy : V g w o2 (a.eval y) sy) (h : pv st (.eqA neq ks) [sx, sy] = some r) : PvOk P g w a o r := by
  cases sx <;> cases sy <;> simp only [pv, reduceCtorEq, Option.map_eq_some_iff] at h
  obtain ⟨b, hb, rfl⟩ := h
  obtain ⟨cs, ds, hc, hd, hr⟩ := arr_run hk hx hy hb 9998
  obtain ⟨_, _, _, _, _, hg, _⟩ := arrKs_inv hk
  refine ⟨.bool (if neq then !b else b), ?_, .bool _ _⟩
  cases neq with
  | true =>
    have h1 := run_neq_struct (P := P) w t cs ds
    rw [hr] at h1
    simp only [execOp, ho, if_true, Sem.run_bind, hc, hd, run_eqGuard_agg w .neq t x y cs ds hg, Result.andThen_ok, h1]
    simp
  | false =>
    have h1 := run_eql_struct (P := P) w t cs ds
    rw [hr] at h1
    simp only [execOp, ho, Bool.false_eq_true, if_false, Sem.run_bind, hc, hd, run_eqGuard_agg w .eql t x y cs ds hg, Result.andThen_ok, h1]
    simp

/-! Keys. -/
theorem checkKey_plain {t : TypeId} {k : KK} (hk : kindOf P t = some k) (e : Bool) (n : Nat) (v : Value) : (Instr.checkKey e (n + 1) t v).run P w = .ok () w := by
  rcases kindOf_inv hk with ⟨_, hu⟩ | ⟨_, d, hu⟩ | ⟨_, hu⟩ <;> (unfold Instr.checkKey; simp only [Sem.run_bind, run_und hu, Result.andThen_ok]; cases v <;> rfl)

theorem checkKey_struct {t : TypeId} {ks : List KK} (hk : structKs P t = some ks) {v : Value} {xs : List SV} {o1 : Option Owner} (hv : V g w o1 v (.agg xs)) (hxl : xs.length = ks.length) (e : Bool) (n : Nat) : (Instr.checkKey e (n + 2) t v).run P w = .ok () w := by
  obtain ⟨fs, hu, _, _, hl, hf⟩ := structKs_inv hk
  obtain ⟨cs, rfl, c1, c2, c3⟩ := hv.agg_inv
  unfold Instr.checkKey
  simp only [Sem.run_bind, run_und hu, Result.andThen_ok]
  rw [← Array.forIn_toList]
  have hall : ∀ f ∈ fs.toList, f.name ≠ "_" ∧ ∃ k, kindOf P f.type = some k ∧ sz P f.type = some 1 ∧ f.offset < xs.length := by
    intro f hf'
    obtain ⟨i, hi, rfl⟩ := List.getElem_of_mem hf'
    obtain ⟨e1, e2, e3, e4⟩ := hf i hi (by omega)
    exact ⟨e1, _, e4, e2, by omega⟩
  clear hf hl
  generalize fs.toList = L at hall
  induction L with
  | nil => simp
  | cons f L ih =>
    obtain ⟨hn, k, h1, h2, h3⟩ := hall f (by simp)
    obtain ⟨rv, hr, _⟩ := part_plain (P := P) h1 h2 c1 c2 c3 h3
    have hck := checkKey_plain (w := w) h1 e n rv
    simp only [List.forIn_cons, Sem.run_bind, hn, ne_eq, not_false_eq_true, if_true, hr, Result.andThen_ok, hck, Sem.run_pure]
    exact ih (fun y hy => hall y (by simp [hy]))

/-- A map's entries, and what they are. -/
def EsOk (g : Gh) (w : World) (es : List MapEntry) (l : List (SV × SV)) : Prop :=
  es.length = l.length ∧ ∀ i (h : i < es.length) (h' : i < l.length), V g w none (es[i]'h).key (l[i]'h').1 ∧ V g w none (es[i]'h).val (l[i]'h').2

theorem EsOk.tail {e : MapEntry} {es : List MapEntry} {p : SV × SV} {l : List (SV × SV)} (h : EsOk g w (e :: es) (p :: l)) : EsOk g w es l :=
  ⟨by simpa using h.1, fun i hi hi' => h.2 (i + 1) (Nat.succ_lt_succ hi) (Nat.succ_lt_succ hi')⟩

theorem sameNow_ok {t : TypeId} {k : KK} {d : TypeDesc} (hk : kindOf P t = some k) (hd : P.underlying t = some d) {v v' : Value} {x y : SV} {b : Bool} {o1 o2 : Option Owner} (hv : V g w o1 v x) (hv' : V g w o2 v' y) (h : eqK k x y = some b) : Instr.sameNow d v v' = some b := by
  rcases eqK_inv h with ⟨rfl, e, m, n, rfl, rfl, rfl⟩ | ⟨rfl, m, n, rfl, rfl, rfl⟩ | ⟨rfl, m, n, rfl, rfl, rfl⟩
  · rcases kindOf_inv hk with ⟨h1, _⟩ | ⟨_, d', hu⟩ | ⟨h1, _⟩
    · cases h1
    · rw [hd] at hu; cases hu; rw [hv.int_inv, hv'.int_inv]; simp [Instr.sameNow]
    · cases h1
  · rcases kindOf_inv hk with ⟨_, hu⟩ | ⟨h1, _⟩ | ⟨h1, _⟩
    · rw [hd] at hu; cases hu; rw [hv.bool_inv, hv'.bool_inv]; simp [Instr.sameNow]
    · cases h1
    · cases h1
  · rcases kindOf_inv hk with ⟨h1, _⟩ | ⟨h1, _⟩ | ⟨_, hu⟩
    · cases h1
    · cases h1
    · rw [hd] at hu; cases hu
      obtain ⟨s1, rfl, rfl⟩ := hv.str_inv
      obtain ⟨s2, rfl, rfl⟩ := hv'.str_inv
      simp [Instr.sameNow, bytes_beq]

theorem findNow_ok {t : TypeId} {k : KK} {d : TypeDesc} (hk : kindOf P t = some k) (hd : P.underlying t = some d) {kv : Value} {sk : SV} {o1 : Option Owner} (hv : V g w o1 kv sk) : ∀ (es : List MapEntry) (l : List (SV × SV)) (j : Nat) (r : Option Nat), EsOk g w es l → findI [k] false sk l = some r →
    Instr.findNow d kv es j = some (r.bind fun i => (es[i]?).map fun e => (j + i, e.val))
  | [], [], j, r, _, h => by
    simp only [findI, Option.some.injEq] at h
    subst h
    rfl
  | e :: es, p :: l, j, r, he, h => by
    simp only [findI, Option.bind_eq_some_iff] at h
    obtain ⟨b, hb, h⟩ := h
    have h0 := he.2 0 (by simp) (by simp)
    simp only [List.getElem_cons_zero] at h0
    have hs := sameNow_ok hk hd hv h0.1 (by simpa [keyEq] using hb)
    cases b with
    | true =>
      simp only [if_true, Option.some.injEq] at h
      subst h
      simp [Instr.findNow, hs]
    | false =>
      simp only [Bool.false_eq_true, if_false, Option.map_eq_some_iff] at h
      obtain ⟨r', hr, rfl⟩ := h
      have ih := findNow_ok hk hd hv es l (j + 1) r' he.tail hr
      simp only [Instr.findNow, hs, ih]
      cases r' with
      | none => rfl
      | some i => simp [Nat.add_assoc, Nat.add_comm 1 i]
  | [], _ :: _, _, _, he, _ => by have := he.1; simp at this
  | _ :: _, [], _, _, he, _ => by have := he.1; simp at this

theorem findAsk_ok {t : TypeId} {ks : List KK} (hk : structKs P t = some ks) {kv : Value} {sk : SV} {o1 : Option Owner} (hv : V g w o1 kv sk) : ∀ (es : List MapEntry) (l : List (SV × SV)) (j : Nat) (r : Option Nat), EsOk g w es l → findI ks true sk l = some r →
    (Instr.findAsking t kv es j).run P w = .ok (r.bind fun i => (es[i]?).map fun e => (j + i, e.val)) w
  | [], [], j, r, _, h => by
    simp only [findI, Option.some.injEq] at h
    subst h
    rfl
  | e :: es, p :: l, j, r, he, h => by
    simp only [findI, Option.bind_eq_some_iff] at h
    obtain ⟨b, hb, h⟩ := h
    have h0 := he.2 0 (by simp) (by simp)
    simp only [List.getElem_cons_zero] at h0
    obtain ⟨p1, p2⟩ := p
    simp only [keyEq, if_true] at hb
    cases sk <;> first | (simp at hb; done) | skip
    cases p1 <;> first | (simp at hb; done) | skip
    obtain ⟨cs, ds, hc, hd, hr⟩ := struct_run hk hv h0.1 hb 9998
    have hq : (Op.equal t kv e.key).run P w = .ok b w := by
      rw [hc, hd]; exact hr
    cases b with
    | true =>
      simp only [if_true, Option.some.injEq] at h
      subst h
      simp [Instr.findAsking, hq]
    | false =>
      simp only [Bool.false_eq_true, if_false, Option.map_eq_some_iff] at h
      obtain ⟨r', hr', rfl⟩ := h
      have ih := findAsk_ok hk hv es l (j + 1) r' he.tail hr'
      simp only [Instr.findAsking, Sem.run_bind, hq, Result.andThen_ok, Bool.false_eq_true, if_false, ih]
      cases r' with
      | none => rfl
      | some i => simp [Nat.add_assoc, Nat.add_comm 1 i]
  | [], _ :: _, _, _, he, _ => by have := he.1; simp at this
  | _ :: _, [], _, _, he, _ => by have := he.1; simp at this

theorem keyKs_inv {t : TypeId} {ks : List KK} {ak : Bool} (h : keyKs P t = some (ks, ak)) : (ak = false ∧ ∃ k, ks = [k] ∧ kindOf P t = some k) ∨ (ak = true ∧ structKs P t = some ks) := by
  unfold keyKs at h
  split at h
  · rename_i k hk; cases h; exact .inl ⟨rfl, k, rfl, hk⟩
  · simp only [Option.map_eq_some_iff, Prod.mk.injEq] at h
    obtain ⟨ks', h1, rfl, rfl⟩ := h
    exact .inr ⟨rfl, h1⟩

theorem findKey_ok {t : TypeId} {ks : List KK} {ak : Bool} (hk : keyKs P t = some (ks, ak)) {kv : Value} {sk : SV} {o1 : Option Owner} (hv : V g w o1 kv sk) {es : List MapEntry} {l : List (SV × SV)} {r : Option Nat} (he : EsOk g w es l) (h : findI ks ak sk l = some r) :
    (Instr.findKey t kv es).run P w = .ok (r.bind fun i => (es[i]?).map fun e => (i, e.val)) w := by
  rcases keyKs_inv hk with ⟨rfl, k, rfl, hk1⟩ | ⟨rfl, hk1⟩
  · obtain ⟨d, hd⟩ : ∃ d, P.underlying t = some d := by
      rcases kindOf_inv hk1 with ⟨_, hu⟩ | ⟨_, d, hu⟩ | ⟨_, hu⟩ <;> exact ⟨_, hu⟩
    have := findNow_ok hk1 hd hv es l 0 r he h
    simp only [Nat.zero_add] at this
    exact MapKept.run_findKey hd this
  · obtain ⟨fs, hu, _⟩ := structKs_inv hk1
    have h1 := findAsk_ok hk1 hv es l 0 r he h
    simp only [Nat.zero_add] at h1
    cases es with
    | nil =>
      have : r.bind (fun i => (([] : List MapEntry)[i]?).map fun e => (i, e.val)) = none := by cases r <;> rfl
      rw [this]
      exact MapKept.run_findKey hu rfl
    | cons e es =>
      have hn : Instr.findNow (.struct fs) kv (e :: es) 0 = none := by simp [Instr.findNow, Instr.sameNow]
      simp only [Instr.findKey, Sem.run_bind, run_und hu, Result.andThen_ok, hn]
      exact h1

/-! Maps. -/
theorem Rel.newMap (h : Rel g0 w0 g s a w) : ∃ g', Rel g0 w0 g' { s with st := s.st ++ [.map []] } a (w.alloc (.map #[] 0)) ∧ g'.ρ[s.st.length]? = some w.heap.size := by
  let g' : Gh := { mark := fun x => if x = w.heap.size then 0 else g.mark x, ow := fun x => if x = w.heap.size then some ⟨.obj s.st.length, []⟩ else g.ow x, ρ := g.ρ ++ [w.heap.size] }
  have hold : ∀ b, b < w.heap.size → (w.alloc (.map #[] 0)).heap[b]? = w.heap[b]? := fun b hb => by show (w.heap.push _)[b]? = _; rw [Array.getElem?_push, if_neg (by omega)]
  have hnew : (w.alloc (.map #[] 0)).heap[w.heap.size]? = some (.map #[] 0) := by show (w.heap.push _)[w.heap.size]? = _; rw [Array.getElem?_push, if_pos rfl]
  have hk : KeepAll g w g' (w.alloc (.map #[] 0)) := fun b hb => ⟨by simp [g', Nat.ne_of_lt hb], by simp [g', Nat.ne_of_lt hb], hold b hb⟩
  have hlen : g.ρ.length = s.st.length := h.inv.len
  have hρ : ∀ (id b : Nat), g.ρ[id]? = some b → g'.ρ[id]? = some b := fun id b hi => by
    have := (List.getElem?_eq_some_iff.1 hi).1
    show (g.ρ ++ [w.heap.size])[id]? = _
    rw [List.getElem?_append_left this]; exact hi
  have st : St g w g' (w.alloc (.map #[] 0)) := hk.st rfl rfl rfl (by simp) hρ
  have hcase : ∀ (id b : Nat), g'.ρ[id]? = some b → g.ρ[id]? = some b ∨ id = s.st.length ∧ b = w.heap.size := by
    intro id b hi
    change (g.ρ ++ [w.heap.size])[id]? = _ at hi
    by_cases hl : id < g.ρ.length
    · rw [List.getElem?_append_left hl] at hi; exact .inl hi
    · rw [List.getElem?_append_right (by omega)] at hi
      right
      have h0 : id - g.ρ.length = 0 := by
        rcases Nat.eq_zero_or_pos (id - g.ρ.length) with h' | h'
        · exact h'
        · rw [List.getElem?_eq_none (by simp; omega)] at hi; cases hi
      rw [h0] at hi
      simp at hi
      exact ⟨by omega, hi.symm⟩
  refine ⟨g', ⟨h.fr.trans (hk.fr st), ?_, h.env.mono st fun t => hk.root _, h.defers⟩, by show (g.ρ ++ [w.heap.size])[s.st.length]? = _; rw [← hlen]; simp⟩
  refine ⟨by simp [g', hlen], fun id b hi => ?_, fun id b l hi hl => ?_, fun id b l hi hl => ?_⟩
  · rcases hcase id b hi with h1 | ⟨rfl, rfl⟩
    · obtain ⟨h2, h3, h4⟩ := h.inv.obj id b h1
      exact ⟨Nat.lt_of_lt_of_le h2 st.size, (hk b h2).mark.trans h3, (hk b h2).ow.trans h4⟩
    · exact ⟨by simp, by simp [g'], by simp [g']⟩
  · rcases hcase id b hi with h1 | ⟨rfl, rfl⟩
    · have h2 := (List.getElem?_eq_some_iff.1 h1).1
      rw [List.getElem?_append_left (by omega)] at hl
      exact (h.inv.cells id b l h1 hl).mono st (hk b (h.inv.obj id b h1).1).heap (fun i => hk.root _)
    · rw [List.getElem?_append_right (Nat.le_refl _)] at hl
      simp at hl
  · rcases hcase id b hi with h1 | ⟨rfl, rfl⟩
    · have h2 := (List.getElem?_eq_some_iff.1 h1).1
      rw [List.getElem?_append_left (by omega)] at hl
      exact (h.inv.map id b l h1 hl).mono st (hk b (h.inv.obj id b h1).1).heap
    · rw [List.getElem?_append_right (Nat.le_refl _)] at hl
      simp at hl
      subst hl
      exact ⟨#[], 0, hnew, ⟨rfl, rfl, fun i hi => by simp at hi⟩, fun i hi => by simp at hi⟩

/-- A map's entries change. -/
theorem Rel.wmap (h : Rel g0 w0 g s a w) {id b : Nat} {l l' : List (SV × SV)} {es es' : Array MapEntry} {clock clock' : Nat} (hb : g.ρ[id]? = some b) (hl : s.st[id]? = some (.map l)) (hh : w.heap[b]? = some (.map es clock)) (he : EsOk g w es'.toList l') (hs : Stmp es' clock') :
    Rel g0 w0 g { s with st := s.st.set id (.map l') } a { w with heap := w.heap.setIfInBounds b (.map es' clock') } := by
  obtain ⟨hblt, hm0, hob⟩ := h.inv.obj id b hb
  have hset : ∀ c : Nat, ({ w with heap := w.heap.setIfInBounds b (.map es' clock') } : World).heap[c]? = if b = c then some (.map es' clock') else w.heap[c]? := by
    intro c
    show (w.heap.setIfInBounds b _)[c]? = _
    by_cases e : b = c
    · subst e; simp [hblt]
    · simp [Array.getElem?_setIfInBounds, e]
  have keep : ∀ x, x ≠ b → Keep g w g { w with heap := w.heap.setIfInBounds b (.map es' clock') } x := fun x hx => ⟨rfl, rfl, by rw [hset, if_neg (fun e => hx e.symm)]⟩
  have st : St g w g { w with heap := w.heap.setIfInBounds b (.map es' clock') } := by
    refine ⟨rfl, rfl, rfl, by simp, fun x i _ hi => ?_, fun _ _ => Nat.le_refl _, fun _ _ h => h⟩
    refine (keep x fun e => ?_).cell i
    subst e; rw [hm0] at hi; omega
  have keepO : ∀ x q, g.ow x = some q → q.root ≠ .obj id → Keep g w g { w with heap := w.heap.setIfInBounds b (.map es' clock') } x := fun x q hq hr => keep x (by rintro rfl; rw [hob] at hq; cases hq; exact hr rfl)
  have fr : Fr g w g { w with heap := w.heap.setIfInBounds b (.map es' clock') } := ⟨st, fun x _ hx => keep x (by rintro rfl; exact hx ⟨_, hob, by simp⟩)⟩
  have hone : ∀ id' b', g.ρ[id']? = some b' → b' = b → id' = id := by
    rintro id' b' h1 rfl
    have := (h.inv.obj id' b' h1).2.2
    rw [hob] at this
    simpa using this.symm
  have hidlt : id < s.st.length := (List.getElem?_eq_some_iff.1 hl).1
  refine ⟨h.fr.trans fr, ?_, h.env.mono st fun t => slot_ne fun x p _ hx => keepO x _ hx (by simp), h.defers⟩
  refine ⟨by simp [h.inv.len], fun id' b' hi => ⟨Nat.lt_of_lt_of_le (h.inv.obj id' b' hi).1 st.size, (h.inv.obj id' b' hi).2⟩, fun id' b' l2 hi hl' => ?_, fun id' b' l2 hi hl' => ?_⟩
  · rw [List.getElem?_set] at hl'
    split at hl'
    · rename_i e; simp [hidlt] at hl'
    · rename_i e
      have hne : b' ≠ b := fun e' => e (hone id' b' hi e').symm
      exact (h.inv.cells id' b' l2 hi hl').mono st (keep b' hne).heap (fun i => cell_ne fun x p _ hx => keepO x _ hx (by simp))
  · rw [List.getElem?_set] at hl'
    split at hl'
    · rename_i e
      subst e
      rw [hb] at hi
      cases hi
      simp only [hidlt, if_true, Option.some.injEq, Ob.map.injEq] at hl'
      subst hl'
      refine ⟨es', clock', by rw [hset, if_pos rfl], ⟨by simpa using he.1, hs⟩, fun i h1 h2 => ?_⟩
      have := he.2 i (by simpa using h1) h2
      simp only [Array.getElem_toList] at this
      exact ⟨this.1.mono st (KeepRoot.none _ _ _ _), this.2.mono st (KeepRoot.none _ _ _ _)⟩
    · rename_i e
      have hne : b' ≠ b := fun e' => e (hone id' b' hi e').symm
      exact (h.inv.map id' b' l2 hi hl').mono st (keep b' hne).heap

theorem MapOk.es {b : Nat} {l : List (SV × SV)} (h : MapOk g w b l) : ∃ es clock, w.heap[b]? = some (.map es clock) ∧ EsOk g w es.toList l ∧ Stmp es clock := by
  obtain ⟨es, clock, h1, ⟨h2, hs⟩, h3⟩ := h
  exact ⟨es, clock, h1, ⟨by simpa using h2, fun i hi hi' => by simpa using h3 i (by simpa using hi) hi'⟩, hs⟩

theorem Stmp.push {es : Array MapEntry} {clock : Nat} (h : Stmp es clock) (kv vv : Value) : Stmp (es.push { key := kv, val := vv, born := clock }) (clock + 1) := by
  refine ⟨by simp [h.size], fun i hi => ?_⟩
  rw [Array.getElem_push]
  split
  · rename_i h1; exact h.born i h1
  · rename_i h1
    simp only [Array.size_push] at hi
    have := h.size
    show clock = i
    omega

theorem Stmp.modify {es : Array MapEntry} {clock : Nat} (h : Stmp es clock) (i : Nat) (f : MapEntry → MapEntry) (hf : ∀ e, (f e).born = e.born) : Stmp (es.modify i f) clock := by
  refine ⟨by simp [h.size], fun j hj => ?_⟩
  simp only [Array.size_modify] at hj
  rw [Array.getElem_modify]
  split
  · rw [hf]; exact h.born j hj
  · exact h.born j hj

theorem zeroV_ok {t : TypeId} {zv : SV} (h : zeroV P t = some zv) : ∃ z, (zeroValue t).run P w = .ok z w ∧ V g w none z zv := by
  unfold zeroV at h
  split at h
  · rename_i i hi
    split at h
    · rename_i cs hz
      simp only [Option.map_eq_some_iff] at h
      obtain ⟨zs, hzs, rfl⟩ := h
      have := zero_ok (g := g) (w := w) hi hz hzs
      refine ⟨.agg cs, ?_, Cs.agg this⟩
      simp [zeroValue, run_info hi, hz]
    · rename_i z _ hz
      refine ⟨z, ?_, litOf_ok h g w none⟩
      simp [zeroValue, run_info hi, hz]
    · cases h
  · cases h

/-- A key can be hashed. -/
theorem checkKey_ok {t : TypeId} {ks : List KK} {ak : Bool} (hk : keyKs P t = some (ks, ak)) {kv : Value} {sk : SV} {o1 : Option Owner} (hv : V g w o1 kv sk) (hs : ak = true → ∃ xs, sk = .agg xs ∧ xs.length = ks.length) (e : Bool) : (Instr.checkKey e 10000 t kv).run P w = .ok () w := by
  rcases keyKs_inv hk with ⟨rfl, k, rfl, hk1⟩ | ⟨rfl, hk1⟩
  · exact checkKey_plain hk1 e 9999 kv
  · obtain ⟨xs, rfl, hl⟩ := hs rfl
    exact checkKey_struct hk1 hv hl e 9998

theorem V.map_inv {ow : Option Owner} {v : Value} {id : Nat} (h : V g w ow v (.mp id)) : ∃ b, v = .map (some b) ∧ g.ρ[id]? = some b := by
  cases h with
  | mp _ _ b h => exact ⟨b, rfl, h⟩

theorem findI_lt {ks : List KK} {ak : Bool} {k : SV} : ∀ {l : List (SV × SV)} {i : Nat}, findI ks ak k l = some (some i) → ∃ hi : i < l.length, keyEq ks ak k (l[i]'hi).1 = some true
  | [], i, h => by simp [findI] at h
  | p :: l, i, h => by
    simp only [findI, Option.bind_eq_some_iff] at h
    obtain ⟨b, hb, h⟩ := h
    cases b with
    | true =>
      simp only [if_true, Option.some.injEq] at h
      subst h
      exact ⟨by simp, by simpa using hb⟩
    | false =>
      simp only [Bool.false_eq_true, if_false, Option.map_eq_some_iff] at h
      obtain ⟨r, hr, h⟩ := h
      obtain ⟨j, rfl, rfl⟩ := h
      obtain ⟨hj, hk⟩ := findI_lt hr
      exact ⟨by simp; omega, by simpa using hk⟩

theorem pv_lkp {t kt e : TypeId} {x k : Operand} {ok ak : Bool} {ks : List KK} {zv sx sk r : SV} {st : List Ob} {o1 o2 : Option Owner} (hI : Inv g w st) (ho : o.op = .lookup t x k ok) (ht : P.underlying t = some (.map kt e)) (hk : keyKs P kt = some (ks, ak)) (hz : zeroV P e = some zv)
    (hx : V g w o1 (a.eval x) sx) (hky : V g w o2 (a.eval k) sk) (h : pv st (.lkp ks ak ok zv) [sx, sk] = some r) : PvOk P g w a o r := by
  simp only [pv, Option.bind_eq_some_iff] at h
  obtain ⟨l, hl, h⟩ := h
  unfold lkpV at h
  split at h
  · rename_i hko
    simp only [Option.map_eq_some_iff] at h
    obtain ⟨r0, hr0, rfl⟩ := h
    have hck := checkKey_ok (P := P) hk hky (fun e => by
      subst e
      simp only [keyOk, if_true] at hko
      split at hko
      · exact ⟨_, rfl, by simpa using hko⟩
      · cases hko)
    obtain ⟨z, hz1, hz2⟩ := zeroV_ok (g := g) (w := w) hz
    obtain ⟨es, hsrc, hE⟩ : ∃ es : Array MapEntry, ((a.eval x = .map none ∧ es = #[]) ∨ ∃ b clock, a.eval x = .map (some b) ∧ w.heap[b]? = some (.map es clock)) ∧ EsOk g w es.toList l := by
      unfold mapEs at hl
      split at hl
      · cases hl
        refine ⟨#[], .inl ⟨?_, rfl⟩, rfl, fun i hi => by simp at hi⟩
        generalize a.eval x = v at hx
        cases hx
        rfl
      · rename_i id
        split at hl
        · rename_i l' hst
          cases hl
          obtain ⟨b, hb, hid⟩ := hx.map_inv
          obtain ⟨es, clock, h1, h2, _⟩ := (hI.map id b _ hid hst).es
          exact ⟨es, .inr ⟨b, clock, hb, h1⟩, h2⟩
        · cases hl
      · cases hl
    have hf := findKey_ok (P := P) hk hky hE hr0
    have hrun : ∃ v, (Instr.lookup t (a.eval x) (a.eval k) ok).run P w = .ok (if ok then .tuple #[v, .bool ((r0.bind fun i => l[i]?).map (·.2)).isSome] else v) w ∧ V g w none v (((r0.bind fun i => l[i]?).map (·.2)).getD zv) := by
      cases r0 with
      | none =>
        refine ⟨z, ?_, hz2⟩
        simp only [Option.bind_none] at hf
        rcases hsrc with ⟨hx0, rfl⟩ | ⟨b, clock, hx0, hh⟩
        · simp only [Instr.lookup, Sem.run_bind, run_und ht, Result.andThen_ok, hx0, Sem.run_pure, hck, hf, hz1]
          rfl
        · simp only [Instr.lookup, Sem.run_bind, run_und ht, Result.andThen_ok, hx0, MapKept.run_getObj_map hh, Sem.run_pure, hck, hf, hz1]
          rfl
      | some i =>
        obtain ⟨hi, _⟩ := findI_lt hr0
        have hi' : i < es.toList.length := by rw [hE.1]; exact hi
        have h2 := hE.2 i hi' hi
        refine ⟨(es.toList[i]).val, ?_, by simpa [hi] using h2.2⟩
        simp only [Option.bind_some, List.getElem?_eq_getElem hi', Option.map_some] at hf
        rcases hsrc with ⟨hx0, rfl⟩ | ⟨b, clock, hx0, hh⟩
        · simp at hi'
        · simp only [Instr.lookup, Sem.run_bind, run_und ht, Result.andThen_ok, hx0, MapKept.run_getObj_map hh, Sem.run_pure, hck, hf]
          simp [hi]
    obtain ⟨v, h1, h2⟩ := hrun
    refine ⟨if ok then .tuple #[v, .bool ((r0.bind fun i => l[i]?).map (·.2)).isSome] else v, by simp only [execOp, ho, Sem.run_bind, h1, Result.andThen_ok]; rfl, ?_⟩
    cases ok with
    | false => exact h2
    | true =>
      refine .tup none _ _ rfl fun i h1 h2' => ?_
      match i, h1 with
      | 0, _ => exact h2.free rfl _
      | 1, _ => exact .bool _ _
  · cases h

/-! New maps, and new entries. -/
theorem eff_mkM (h : Rel g0 w0 g s a w) {t kt e : TypeId} {rsv : Option Operand} {rs : List Arg} (ho : o.op = .makeMap t rsv) (ht : P.underlying t = some (.map kt e)) (hrl : rs.length = rsv.toList.length)
    (hA : ∀ i (h1 : i < rs.length) (h2 : i < rsv.toList.length), AOk g w s a (rsv.toList[i]'h2) (rs[i]'h1)) {r : SV} {wb : List (Nat × SV)} {st' : List Ob} (he : ev s.st .mkM (rs.map (Arg.raw s)) = some (r, wb, st')) :
    EffOk P g0 w0 (S.put { env := wback rs s.env wb, st := st' } o.dst r) a w o := by
  obtain ⟨g', hR, hid⟩ := h.newMap
  cases rsv with
  | none =>
    cases rs with
    | nil =>
      simp only [ev, List.map_nil, Option.some.injEq, Prod.mk.injEq] at he
      obtain ⟨rfl, rfl, rfl⟩ := he
      refine ⟨.map (some w.heap.size), _, g', .inl ?_, hR.put fun _ _ => .mp _ _ _ hid⟩
      simp [execOp, ho, Instr.makeMap]
    | cons _ _ => simp at hrl
  | some y =>
    match rs, hrl with
    | [ar], _ =>
      obtain ⟨ow, hv⟩ := (hA 0 (by simp) (by simp)).V
      simp only [List.getElem_cons_zero, Option.toList_some] at hv
      simp only [List.map_cons, List.map_nil] at he
      generalize ar.raw s = sx at he hv
      cases sx <;> first | (simp [ev, pv] at he; done) | skip
      simp only [ev, Option.some.injEq, Prod.mk.injEq] at he
      obtain ⟨rfl, rfl, rfl⟩ := he
      refine ⟨.map (some w.heap.size), _, g', .inl ?_, hR.put fun _ _ => .mp _ _ _ hid⟩
      simp [execOp, ho, Instr.makeMap, run_und ht, hv.int_inv, asInt, asIntOf]

theorem sameBits_plain {k : KK} {v v' : Value} {x y : SV} {o1 o2 : Option Owner} (hv : V g w o1 v x) (hv' : V g w o2 v' y) (h : eqK k x y = some true) (n : Nat) : Instr.sameBits n v' v = true := by
  rcases eqK_inv h with ⟨rfl, e, m, n', rfl, rfl, hb⟩ | ⟨rfl, m, n', rfl, rfl, hb⟩ | ⟨rfl, m, n', rfl, rfl, hb⟩
  · have : m = n' := by simpa using hb.symm
    subst this
    rw [hv.int_inv, hv'.int_inv]
    cases n <;> simp [Instr.sameBits]
  · have : m = n' := by simpa using hb.symm
    subst this
    rw [hv.bool_inv, hv'.bool_inv]
    cases n <;> simp [Instr.sameBits]
  · have : m = n' := by simpa using hb.symm
    subst this
    obtain ⟨s1, rfl, h1⟩ := hv.str_inv
    obtain ⟨s2, rfl, h2⟩ := hv'.str_inv
    have e : (s2 == s1) = true := by rw [bytes_beq, h1, h2]; simp
    cases n <;> simp [Instr.sameBits, e]

theorem eqKs_true : ∀ {ks : List KK} {xs ys : List SV}, eqKs ks xs ys = some true → xs.length = ks.length ∧ ys.length = ks.length ∧ ∀ i (h1 : i < ks.length) (h2 : i < xs.length) (h3 : i < ys.length), eqK (ks[i]'h1) (xs[i]'h2) (ys[i]'h3) = some true
  | [], [], [], _ => ⟨rfl, rfl, fun i h => by simp at h⟩
  | k :: ks, x :: xs, y :: ys, h => by
    simp only [eqKs, Option.bind_eq_some_iff] at h
    obtain ⟨b, hb, h⟩ := h
    cases b with
    | false => simp at h
    | true =>
      simp only [if_true] at h
      obtain ⟨h1, h2, h3⟩ := eqKs_true h
      refine ⟨by simp [h1], by simp [h2], fun i q1 q2 q3 => ?_⟩
      cases i with
      | zero => exact hb
      | succ i => exact h3 i (by simpa using q1) (by simpa using q2) (by simpa using q3)
  | [], _ :: _, _, h => by simp [eqKs] at h
  | [], [], _ :: _, h => by simp [eqKs] at h
  | _ :: _, [], _, h => by simp [eqKs] at h
  | _ :: _, _ :: _, [], h => by simp [eqKs] at h

theorem sameBits_ok {ks : List KK} {ak : Bool} {v v' : Value} {x y : SV} {o1 o2 : Option Owner} (hv : V g w o1 v x) (hv' : V g w o2 v' y) (h : keyEq ks ak x y = some true) : Instr.sameBits 10000 v' v = true := by
  unfold keyEq at h
  split at h
  · split at h
    · rename_i xs ys
      obtain ⟨h1, h2, h3⟩ := eqKs_true h
      obtain ⟨cs, rfl, c1, c2, c3⟩ := hv.agg_inv
      obtain ⟨ds, rfl, d1, d2, d3⟩ := hv'.agg_inv
      show (ds.size == cs.size && (ds.toList.zip cs.toList).all fun (x, y) => Instr.sameBits 9999 x y) = true
      rw [Bool.and_eq_true]
      refine ⟨by simp; omega, ?_⟩
      rw [List.all_eq_true]
      intro p hp
      obtain ⟨i, hi, rfl⟩ := List.getElem_of_mem hp
      simp only [List.length_zip, Array.length_toList] at hi
      simp only [List.getElem_zip, Array.getElem_toList]
      exact sameBits_plain (c3 i (by omega) (by omega)) (d3 i (by omega) (by omega)) (h3 i (by omega) (by omega) (by omega)) 9999
    · cases h
  · split at h
    · exact sameBits_plain hv hv' h 10000
    · cases h

theorem EsOk.push {es : Array MapEntry} {l : List (SV × SV)} (h : EsOk g w es.toList l) {kv vv : Value} {sk sv : SV} (hk : V g w none kv sk) (hv : V g w none vv sv) (n : Nat) : EsOk g w (es.push { key := kv, val := vv, born := n }).toList (l ++ [(sk, sv)]) := by
  refine ⟨by have := h.1; simp at this ⊢; exact this, fun i h1 h2 => ?_⟩
  simp only [Array.toList_push]
  rw [List.getElem_append, List.getElem_append]
  have hl : es.toList.length = l.length := h.1
  by_cases hi : i < es.toList.length
  · rw [dif_pos hi, dif_pos (by omega)]
    exact h.2 i hi (by omega)
  · rw [dif_neg hi, dif_neg (by omega)]
    simp only [List.length_append, List.length_cons, List.length_nil] at h2
    have : i - es.toList.length = 0 := by omega
    have h0 : i - l.length = 0 := by omega
    simp only [this, h0, List.getElem_cons_zero]
    exact ⟨hk, hv⟩

theorem EsOk.modify {es : Array MapEntry} {l : List (SV × SV)} (h : EsOk g w es.toList l) {kv vv : Value} {sk sv : SV} (hk : V g w none kv sk) (hv : V g w none vv sv) (i : Nat) : EsOk g w (es.modify i fun e => { e with key := kv, val := vv }).toList (l.set i (sk, sv)) := by
  refine ⟨by simpa using h.1, fun j h1 h2 => ?_⟩
  simp only [Array.toList_modify, List.length_modify] at h1
  simp only [Array.toList_modify, List.getElem_modify, List.getElem_set]
  by_cases hij : i = j
  · simp only [if_pos hij]
    exact ⟨hk, hv⟩
  · simp only [if_neg hij]
    exact h.2 j h1 (by simpa using h2)

theorem eff_upd (h : Rel g0 w0 g s a w) {t kt e : TypeId} {m k v : Operand} {ks : List KK} {ak : Bool} {am akk av : Arg} (ho : o.op = .mapUpdate t m k v) (ht : P.underlying t = some (.map kt e)) (hk : keyKs P kt = some (ks, ak))
    (hm : AOk g w s a m am) (hkk : AOk g w s a k akk) (hv : AOk g w s a v av) {r : SV} {wb : List (Nat × SV)} {st' : List Ob} (he : ev s.st (.upd ks ak) ([am, akk, av].map (Arg.raw s)) = some (r, wb, st')) :
    EffOk P g0 w0 (S.put { env := wback [am, akk, av] s.env wb, st := st' } o.dst r) a w o := by
  obtain ⟨o1, v1⟩ := hm.V
  obtain ⟨o2, v2⟩ := hkk.V
  obtain ⟨o3, v3⟩ := hv.V
  simp only [List.map_cons, List.map_nil] at he
  generalize am.raw s = sm at he v1
  cases sm <;> first | (simp [ev, pv] at he; done) | skip
  rename_i id
  have k2 := v2.ro none
  have k3 := v3.ro none
  simp only [ev] at he
  generalize Sh.ro (akk.raw s) = sk at he k2
  generalize Sh.ro (av.raw s) = sv at he k3
  split at he
  · rename_i l hst
    simp only [Option.map_eq_some_iff, Prod.mk.injEq] at he
    obtain ⟨l', hl', rfl, rfl, rfl⟩ := he
    unfold updV at hl'
    split at hl'
    · rename_i hko
      simp only [Option.map_eq_some_iff] at hl'
      obtain ⟨r0, hr0, rfl⟩ := hl'
      obtain ⟨b, hb, hid⟩ := v1.map_inv
      obtain ⟨es, clock, hh, hE, hS⟩ := (h.inv.map id b _ hid hst).es
      have hck := checkKey_ok (P := P) hk k2 (fun e => by
        subst e
        simp only [keyOk, if_true] at hko
        split at hko
        · exact ⟨_, rfl, by simpa using hko⟩
        · cases hko) false
      have hf := findKey_ok (P := P) hk k2 hE hr0
      cases r0 with
      | none =>
        have hR := h.wmap (clock' := clock + 1) hid hst hh (hE.push k2 k3 clock) (hS.push _ _)
        refine ⟨Go.undef, _, g, .inr ⟨?_, rfl⟩, hR.put fun _ _ => .undef _ _⟩
        simp only [execOp, ho, Instr.mapUpdate, Sem.run_bind, run_und ht, Result.andThen_ok, hb, MapKept.run_getObj_map hh, hck, hf, Option.bind_none, MapKept.run_setObj_map _ hh]
        rfl
      | some i =>
        obtain ⟨hi, hke⟩ := findI_lt hr0
        have hi' : i < es.size := by have := hE.1; simp at this; omega
        have hE2 := hE.2 i (by simpa using hi') hi
        have hsb := sameBits_ok k2 hE2.1 hke
        have hR := h.wmap (clock' := clock) hid hst hh (hE.modify k2 k3 i) (hS.modify i _ fun _ => rfl)
        refine ⟨Go.undef, _, g, .inr ⟨?_, rfl⟩, hR.put fun _ _ => .undef _ _⟩
        have hks : (Instr.keyThatStays (((es[i]?).map (·.key)).getD (a.eval k)) (a.eval k)).run P w = .ok (a.eval k) w := by
          rw [Array.getElem?_eq_getElem hi']
          unfold Instr.keyThatStays
          have hsb' : Instr.sameBits 10000 es[i].key (a.eval k) = true := by simpa using hsb
          simp only [Option.map_some, Option.getD_some, hsb', if_true, Sem.run_pure]
        have hg : es.toList[i]? = some es[i] := by simp [hi']
        simp only [execOp, ho, Instr.mapUpdate, Sem.run_bind, run_und ht, Result.andThen_ok, hb, MapKept.run_getObj_map hh, hck, hf, Option.bind_some, hg, Option.map_some, hks, MapKept.run_setObj_map _ hh]
        rfl
    · cases hl'
  · cases he

/-- An entry is made, or found. -/
theorem eff_ment (h : Rel g0 w0 g s a w) {t kt e : TypeId} {m k : Operand} {ks : List KK} {ak : Bool} {zv : SV} {am akk : Arg} (ho : o.op = .mapEntry t m k) (ht : P.underlying t = some (.map kt e)) (hk : keyKs P kt = some (ks, ak)) (hz : zeroV P e = some zv)
    (hm : AOk g w s a m am) (hkk : AOk g w s a k akk) {r : SV} {wb : List (Nat × SV)} {st' : List Ob} (he : ev s.st (.ment ks ak zv) ([am, akk].map (Arg.raw s)) = some (r, wb, st')) :
    EffOk P g0 w0 (S.put { env := wback [am, akk] s.env wb, st := st' } o.dst r) a w o := by
  obtain ⟨o1, v1⟩ := hm.V
  obtain ⟨o2, v2⟩ := hkk.V
  simp only [List.map_cons, List.map_nil] at he
  generalize am.raw s = sm at he v1
  cases sm <;> first | (simp [ev, pv] at he; done) | skip
  rename_i id
  have k2 := v2.ro none
  simp only [ev] at he
  generalize Sh.ro (akk.raw s) = sk at he k2
  split at he
  · rename_i l hst
    simp only [Option.map_eq_some_iff, Prod.mk.injEq] at he
    obtain ⟨q, hq, rfl, rfl, rfl⟩ := he
    unfold mentV at hq
    split at hq
    · rename_i hko
      simp only [Option.map_eq_some_iff] at hq
      obtain ⟨r0, hr0, rfl⟩ := hq
      obtain ⟨b, hb, hid⟩ := v1.map_inv
      obtain ⟨es, clock, hh, hE, hS⟩ := (h.inv.map id b _ hid hst).es
      have hck := checkKey_ok (P := P) hk k2 (fun e => by
        subst e
        simp only [keyOk, if_true] at hko
        split at hko
        · exact ⟨_, rfl, by simpa using hko⟩
        · cases hko) false
      have hf := findKey_ok (P := P) hk k2 hE hr0
      obtain ⟨z, hz1, hz2⟩ := zeroV_ok (g := g) (w := w) hz
      have hlen : es.size = l.length := by simpa using hE.1
      have tupV : ∀ {g' : Gh} {w' : World} {d : Nat} {v : Value} {sv : SV} {i : Nat}, V g' w' none v sv → V g' w' (slotO d) (.tuple #[v, .int .i64 i]) (.tup [sv, .int .i64 i]) := by
        intro g' w' d v sv i hv
        refine .tup _ _ _ rfl fun j h1 h2' => ?_
        match j, h1 with
        | 0, _ => exact hv.free rfl _
        | 1, _ => exact .int _ _ _
      have fin : ∀ {g' : Gh} {w' : World} {l' : List (SV × SV)} {i : Nat} {es' : Array MapEntry} {c' : Nat} {v : Value} {sv : SV}, Rel g0 w0 g' { s with st := s.st.set id (.map l') } a w' → g'.ρ[id]? = some b → w'.heap[b]? = some (.map es' c') → (∀ (h1 : i < es'.size) (h2 : i < l'.length), (es'[i]'h1).val = v ∧ (l'[i]'h2).2 = sv) → i < l'.length → V g' w' none v sv := by
        intro g' w' l' i es' c' v sv hR hid' hh' hv hi
        have hlt := (List.getElem?_eq_some_iff.1 hst).1
        obtain ⟨es2, c2, h1, ⟨h2, _⟩, h3⟩ := hR.inv.map id b l' hid' (by show (s.st.set id _)[id]? = _; simp [hlt])
        rw [hh'] at h1
        cases h1
        have h4 := h3 i (by omega) hi
        obtain ⟨e1, e2⟩ := hv (by omega) hi
        rw [e1, e2] at h4
        exact h4.2
      have hblt : b < w.heap.size := (h.inv.obj id b hid).1
      cases r0 with
      | none =>
        have hR := h.wmap (clock' := clock + 1) hid hst hh (hE.push k2 hz2 clock) (hS.push _ _)
        have hv := fin (i := l.length) (es' := es.push { key := a.eval k, val := z, born := clock }) (c' := clock + 1) hR hid (by show (w.heap.setIfInBounds b _)[b]? = _; simp [hblt]) (v := z) (sv := zv) (fun h1 h2 => by
          constructor
          · simp [Array.getElem_push, hlen]
          · simp) (by simp)
        refine ⟨.tuple #[z, .int .i64 (l.length : Nat)], _, g, .inl ?_, hR.put fun d _ => tupV hv⟩
        have hc : clock = l.length := by rw [hS.size, hlen]
        simp only [execOp, ho, Instr.mapEntry, Sem.run_bind, run_und ht, Result.andThen_ok, hb, MapKept.run_getObj_map hh, hck, hf, Option.bind_none, hz1, MapKept.run_setObj_map _ hh]
        simp [goInt, hc]
      | some i =>
        obtain ⟨hi, hke⟩ := findI_lt hr0
        have hi' : i < es.size := by omega
        have hE2 := hE.2 i (by simpa using hi') hi
        have hsb := sameBits_ok k2 hE2.1 hke
        have hE2v : V g w none (es[i]).val (l[i]).2 := by simpa using hE2.2
        have hR := h.wmap (clock' := clock) (es' := es.modify i fun e => { e with key := a.eval k }) (l' := l.set i (sk, (l[i]).2)) hid hst hh (by
          have := hE.modify k2 hE2v i
          have e1 : (es.modify i fun e => { e with key := a.eval k, val := (es[i]).val }) = es.modify i fun e => { e with key := a.eval k } := by
            apply Array.ext (by simp)
            intro j h1 h2
            rw [Array.getElem_modify, Array.getElem_modify]
            split
            · rename_i e; subst e; rfl
            · rfl
          rw [e1] at this
          exact this) (hS.modify i _ fun _ => rfl)
        have hv := fin (i := i) (es' := es.modify i fun e => { e with key := a.eval k }) (c' := clock) hR hid (by show (w.heap.setIfInBounds b _)[b]? = _; simp [hblt]) (v := (es[i]).val) (sv := (l[i]).2) (fun h1 h2 => by
          constructor
          · rw [Array.getElem_modify, if_pos rfl]
          · simp) (by simp [hi])
        have hks : (Instr.keyThatStays (((es[i]?).map (·.key)).getD (a.eval k)) (a.eval k)).run P w = .ok (a.eval k) w := by
          rw [Array.getElem?_eq_getElem hi']
          unfold Instr.keyThatStays
          have hsb' : Instr.sameBits 10000 es[i].key (a.eval k) = true := by simpa using hsb
          simp only [Option.map_some, Option.getD_some, hsb', if_true, Sem.run_pure]
        have hg : es.toList[i]? = some es[i] := by simp [hi']
        have hl : ((l[i]?).map (·.2)).getD zv = (l[i]).2 := by simp [hi]
        simp only [hl]
        refine ⟨.tuple #[(es[i]).val, .int .i64 i], _, g, .inl ?_, hR.put fun d _ => tupV hv⟩
        have hbn := hS.born i hi'
        simp only [execOp, ho, Instr.mapEntry, Sem.run_bind, run_und ht, Result.andThen_ok, hb, MapKept.run_getObj_map hh, hck, hf, Option.bind_some, hg, Option.map_some, hks, MapKept.run_setObj_map _ hh]
        simp [goInt, hi', hbn]
    · cases hq
  · cases he

/-- An entry is given its value. -/
theorem eff_mest (h : Rel g0 w0 g s a w) {t kt e : TypeId} {m k v : Operand} {am akk av : Arg} (ho : o.op = .entryStore t m k v) (ht : P.underlying t = some (.map kt e))
    (hm : AOk g w s a m am) (hkk : AOk g w s a k akk) (hv : AOk g w s a v av) {r : SV} {wb : List (Nat × SV)} {st' : List Ob} (he : ev s.st .mest ([am, akk, av].map (Arg.raw s)) = some (r, wb, st')) :
    EffOk P g0 w0 (S.put { env := wback [am, akk, av] s.env wb, st := st' } o.dst r) a w o := by
  obtain ⟨o1, v1⟩ := hm.V
  obtain ⟨o2, v2⟩ := hkk.V
  obtain ⟨o3, v3⟩ := hv.V
  simp only [List.map_cons, List.map_nil] at he
  generalize am.raw s = sm at he v1
  cases sm <;> first | (simp [ev, pv] at he; done) | skip
  rename_i id
  generalize akk.raw s = sk at he v2
  cases sk <;> first | (simp [ev, pv] at he; done) | skip
  rename_i kk n
  have k3 := v3.ro none
  simp only [ev] at he
  generalize Sh.ro (av.raw s) = sv at he k3
  split at he
  · rename_i l hst
    simp only [Option.map_eq_some_iff, Prod.mk.injEq] at he
    obtain ⟨p, hp, rfl, rfl, rfl⟩ := he
    split at hp
    · rename_i h0
      obtain ⟨hi, rfl⟩ := List.getElem?_eq_some_iff.1 hp
      obtain ⟨b, hb, hid⟩ := v1.map_inv
      obtain ⟨es, clock, hh, hE, hS⟩ := (h.inv.map id b _ hid hst).es
      have hlen : es.size = l.length := by simpa using hE.1
      have hi' : n.toNat < es.size := by omega
      have hE2 := hE.2 n.toNat (by simpa using hi') hi
      have hE2k : V g w none (es[n.toNat]).key (l[n.toNat]).1 := by simpa using hE2.1
      have hR := h.wmap (clock' := clock) (es' := es.modify n.toNat fun e => { e with val := a.eval v }) (l' := l.set n.toNat ((l[n.toNat]).1, sv)) hid hst hh (by
        have := hE.modify hE2k k3 n.toNat
        have e1 : (es.modify n.toNat fun e => { e with key := (es[n.toNat]).key, val := a.eval v }) = es.modify n.toNat fun e => { e with val := a.eval v } := by
          apply Array.ext (by simp)
          intro j h1 h2
          rw [Array.getElem_modify, Array.getElem_modify]
          split
          · rename_i e; subst e; rfl
          · rfl
        rw [e1] at this
        exact this) (hS.modify _ _ fun _ => rfl)
      have hfi : es.findIdx? (fun e => (e.born : Int) == n) = some n.toNat := by
        rw [Array.findIdx?_eq_some_iff_getElem]
        refine ⟨hi', ?_, fun j hj => ?_⟩
        · rw [hS.born _ hi']; simp; omega
        · rw [hS.born _ (by omega)]; simp; omega
      refine ⟨Go.undef, _, g, .inr ⟨?_, rfl⟩, hR.put fun _ _ => .undef _ _⟩
      simp only [execOp, ho, Instr.entryStore, Sem.run_bind, Result.andThen_ok, hb, MapKept.run_getObj_map hh, v2.int_inv, asInt, asIntOf, Sem.run_pure, hfi, MapKept.run_setObj_map _ hh]
    · cases hp
  · cases he

end
end Go.Sh
