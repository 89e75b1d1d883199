/-
  The shadow machine, part Tl: loops, what is flagged, bytes.
-/
import Derived.Test.YtihhaeklacphbaaDoorShS
set_option linter.unusedSimpArgs false
set_option linter.unusedVariables false
namespace Go.Sh
def lpK (k : Nat) (I : S → Prop) (μ : S → Nat) (m : Nat) (Q : Ex → S → Prop) : Ex → S → Prop := fun e s' => match e with | .normal => ∃ s'', Forget k s' s'' ∧ I s'' ∧ μ s'' < m | e => Q e s'
section
variable {k m : Nat} {I : S → Prop} {μ : S → Nat} {Q : Ex → S → Prop} {s : S}
theorem lpK_n : lpK k I μ m Q .normal s = ∃ s'', Forget k s s'' ∧ I s'' ∧ μ s'' < m := _root_.id rfl
theorem lpK_e {i : Nat} : lpK k I μ m Q (.exit i) s = Q (.exit i) s := _root_.id rfl
theorem lpK_r : lpK k I μ m Q .ret s = Q .ret s := _root_.id rfl
theorem lpK_g {i : Nat} : lpK k I μ m Q (.goto i) s = Q (.goto i) s := _root_.id rfl
theorem swp_lp {O : Orc} {a : SC} (I : S → Prop) (μ : S → Nat) (s0 : S) (h0 : Forget s.st.length s s0) (hI : I s0)
    (h : ∀ s1, I s1 → swp O a (lpK s.st.length I μ (μ s1) Q) s1) : swp O (.loop a) Q s := swp_loop I μ s0 h0 hI h
end
section
variable {xs ys : List SV} {n id off es : Nat} {k : IntKind} {i : Int} {b : Bool} {l : List UInt8} {f : FuncId}
theorem flg_undef : flg .undef = false := _root_.id rfl
theorem flg_bool : flg (.bool b) = false := _root_.id rfl
theorem flg_int : flg (.int k i) = false := _root_.id rfl
theorem flg_str : flg (.str l) = false := _root_.id rfl
theorem flg_nilS : flg .nilS = false := _root_.id rfl
theorem flg_nilP : flg .nilP = false := _root_.id rfl
theorem flg_ptr : flg (.ptr id off) = false := _root_.id rfl
theorem flg_agg : flg (.agg xs) = false := _root_.id rfl
theorem flg_tup : flg (.tup xs) = false := _root_.id rfl
theorem flg_nilF : flg .nilF = false := _root_.id rfl
theorem flg_fn : flg (.fn f xs ys) = false := _root_.id rfl
theorem flg_nilM : flg .nilM = false := _root_.id rfl
theorem flg_mp : flg (.mp id) = false := _root_.id rfl
theorem flg_elv : flg (.elv xs n) = false := _root_.id rfl
theorem flg_ro : flg (.sl xs n .ro) = false := _root_.id rfl
theorem flg_full : flg (.sl xs n .full) = false := _root_.id rfl
theorem flg_own : flg (.sl xs n (.own es)) = true := _root_.id rfl
theorem flg_excl : flg (.sl xs n (.excl es)) = true := _root_.id rfl
theorem exc_undef : exc .undef = false := _root_.id rfl
theorem exc_bool : exc (.bool b) = false := _root_.id rfl
theorem exc_int : exc (.int k i) = false := _root_.id rfl
theorem exc_str : exc (.str l) = false := _root_.id rfl
theorem exc_nilS : exc .nilS = false := _root_.id rfl
theorem exc_nilP : exc .nilP = false := _root_.id rfl
theorem exc_ptr : exc (.ptr id off) = false := _root_.id rfl
theorem exc_agg : exc (.agg xs) = false := _root_.id rfl
theorem exc_tup : exc (.tup xs) = false := _root_.id rfl
theorem exc_nilF : exc .nilF = false := _root_.id rfl
theorem exc_fn : exc (.fn f xs ys) = false := _root_.id rfl
theorem exc_nilM : exc .nilM = false := _root_.id rfl
theorem exc_mp : exc (.mp id) = false := _root_.id rfl
theorem exc_elv : exc (.elv xs n) = false := _root_.id rfl
theorem exc_ro : exc (.sl xs n .ro) = false := _root_.id rfl
theorem exc_full : exc (.sl xs n .full) = false := _root_.id rfl
theorem exc_own : exc (.sl xs n (.own es)) = false := _root_.id rfl
theorem exc_excl : exc (.sl xs n (.excl es)) = true := _root_.id rfl
end
section
theorem fg_e : fg [] [] := trivial
theorem fg_d {a : SV} {p q : List SV} (h : fg p q) : fg (a :: p) (.undef :: q) := ⟨.inr rfl, h⟩
theorem fg_k {a b : SV} {p q : List SV} (e : b = a) (h : fg p q) : fg (a :: p) (b :: q) := ⟨.inl e, h⟩
end

/-! Bytes. -/
def bsv (l : List UInt8) : List SV := l.map fun b => .int .u8 b.toNat
theorem bsv_len (l : List UInt8) : (bsv l).length = l.length := by simp [bsv]
theorem bsv_app (l m : List UInt8) : bsv l ++ bsv m = bsv (l ++ m) := by simp [bsv]
theorem bsv_take (l : List UInt8) (n : Nat) : (bsv l).take n = bsv (l.take n) := by simp [bsv, List.map_take]
theorem bsv_drop (l : List UInt8) (n : Nat) : (bsv l).drop n = bsv (l.drop n) := by simp [bsv, List.map_drop]
theorem bsv_at (l : List UInt8) (i : Nat) (b : UInt8) (h : l[i]? = some b) : (bsv l)[i]? = some (.int .u8 b.toNat) := by simp [bsv, h]
theorem b2s_bsv {st : List Ob} {l : List UInt8} {n : Nat} {f : Fl} : ev st .b2s [.sl (bsv l) n f] = if n = l.length then some (.str l, [], st) else none := b2s_bytes
theorem bytesOf_bsv (l : List UInt8) : bytesOf (bsv l) = some l := by
  have h := b2s_bsv (st := []) (l := l) (n := l.length) (f := .ro)
  rw [if_pos rfl] at h
  have h2 : ev [] .b2s [.sl (bsv l) l.length .ro] = (if l.length = (bsv l).length then (bytesOf (bsv l)).map .str else none).map fun r => (r, [], []) := rfl
  rw [h2, if_pos (by simp [bsv])] at h
  cases hb : bytesOf (bsv l) with
  | none => rw [hb] at h; cases h
  | some x => rw [hb] at h; simp at h; rw [h]
theorem b2O_bsv {st : List Ob} {id n : Nat} {l : List UInt8} (h : st[id]? = some (.cells (bsv l))) (hn : n = l.length) : ev st .b2s [.slo id 0 n] = some (.str l, [], st) := by
  subst hn
  rw [ev_b2O, h, apO_some, if_pos (by simp [bsv]), List.drop_zero, List.take_of_length_le (by simp [bsv]), bytesOf_bsv]
  rfl
theorem idOks_bsv (k : Nat) (l : List UInt8) : idOks k (bsv l) = true := by
  induction l with
  | nil => rfl
  | cons x l ih => simp only [bsv, List.map_cons, idOks, idOk, Bool.true_and] at ih ⊢; exact ih
/-- A list of one cell each, to be read: nil, or shared. -/
def rdL {α : Type} (f : α → SV) (v : SV) (l : List α) : Prop := (v = .nilS ∧ l = []) ∨ v = .sl (l.map f) l.length .ro
theorem rdL_facts {α : Type} {f : α → SV} {v : SV} {l : List α} (h : rdL f v l) : ro v = v ∧ got v = v ∧ exc v = false ∧ flg v = false ∧ ∀ st, ev st .lenL [v] = some (.int .i64 l.length, [], st) := by
  rcases h with ⟨rfl, rfl⟩ | rfl
  · exact ⟨rfl, rfl, rfl, rfl, fun _ => ev_lenN⟩
  · exact ⟨rfl, rfl, rfl, rfl, fun _ => ev_lenL⟩
/-- A list of some cells each, to be read. -/
def rdR {α : Type} (f : α → List SV) (v : SV) (l : List α) : Prop := (v = .nilS ∧ l = []) ∨ v = .sl (l.flatMap f) l.length .ro
theorem rdR_facts {α : Type} {f : α → List SV} {v : SV} {l : List α} (h : rdR f v l) : ro v = v ∧ got v = v ∧ exc v = false ∧ flg v = false ∧ ∀ st, ev st .lenL [v] = some (.int .i64 l.length, [], st) := by
  rcases h with ⟨rfl, rfl⟩ | rfl
  · exact ⟨rfl, rfl, rfl, rfl, fun _ => ev_lenN⟩
  · exact ⟨rfl, rfl, rfl, rfl, fun _ => ev_lenL⟩
theorem okSt_get {st : List Ob} {i : Nat} {o : Ob} (h : okSt st) (hi : st[i]? = some o) : obOk st.length o = true := by
  unfold okSt at h
  rw [List.all_eq_true] at h
  exact h _ (List.mem_of_getElem? hi)
theorem okSt_set {st : List Ob} {i : Nat} {o : Ob} (h : okSt st) (ho : obOk st.length o = true) : okSt (st.set i o) := by
  unfold okSt at *
  rw [List.all_eq_true] at *
  intro x hx
  rw [List.length_set]
  rcases List.mem_or_eq_of_mem_set hx with hx | rfl
  · exact h x hx
  · exact ho
theorem okSt_appM {st : List Ob} (h : okSt st) : okSt (st ++ [.map []]) := by
  unfold okSt at *
  rw [List.all_eq_true] at *
  intro x hx
  rcases List.mem_append.1 hx with hx | hx
  · have := h x hx
    cases x with
    | cells l => exact idOks_mono (by simp) l this
    | map l =>
      simp only [obOk, List.all_eq_true, Bool.and_eq_true] at this ⊢
      intro p hp
      exact ⟨idOk_mono (by simp) _ (this p hp).1, idOk_mono (by simp) _ (this p hp).2⟩
  · rw [List.mem_singleton.1 hx]; rfl

theorem map_ro1 : ∀ {xs : List SV}, xs.all plainV = true → xs.map ro1 = xs
  | [], _ => rfl
  | x :: xs, h => by
    rw [List.all_cons, Bool.and_eq_true] at h
    rw [List.map_cons, map_ro1 h.2]
    congr 1
    have hx := h.1
    cases x <;> first | rfl | (simp [plainV] at hx; done) | skip
    rename_i f
    cases f <;> first | rfl | (simp [plainV] at hx; done)
theorem all_isCell {xs : List SV} (h : xs.all plainV = true) : xs.all isCell = true := by
  rw [List.all_eq_true] at *
  exact fun x hx => (plainV_spec (h x hx)).2.2.2.2.2
/-- A struct is stored. -/
theorem st_agg {st : List Ob} {i n : Nat} {l xs : List SV} {b : Bool} (h : st[i]? = some (.cells l)) (hx : xs.all plainV = true) (hn : xs.length = n) (hl : l.length = n) : ev st (.store n b) [.ptr i 0, .agg xs] = some (.undef, [], st.set i (.cells xs)) := by
  have e1 : Sh.ro (.agg xs) = .agg xs := by show SV.agg (xs.map ro1) = _; rw [map_ro1 hx]
  have e2 : Sh.got (.agg xs) = .agg xs := e1
  have e3 : wrCells l 0 xs = xs := by
    rw [wrCells_eq _ _ _ (by omega), List.take_zero, List.drop_eq_nil_of_le (by omega)]; simp
  have e4 : (cellsV (.agg xs)).length = n ∧ 0 + n ≤ l.length ∧ (cellsV (.agg xs)).all isCell := ⟨hn, by omega, all_isCell hx⟩
  cases b with
  | true =>
    show (match st[i]? with | some (.cells l) => _ | _ => none) = _
    rw [h]
    simp only [flg, Bool.false_eq_true, if_false, e1]
    rw [if_pos e4]
    simp only [cellsV, e3]; rfl
  | false =>
    show (match st[i]? with | some (.cells l) => _ | _ => none) = _
    rw [h]
    simp only [e2]
    rw [if_pos e4]
    simp only [cellsV, e3]; rfl
theorem ev_ldA {st : List Ob} {i o n : Nat} : ev st (.load n true) [.ptr i o] = apO (st[i]?) fun l => if o + n ≤ l.length then some (ro (.agg ((l.drop o).take n)), [], st) else none := by
  show Option.map _ ((rdCells st i o n).bind _) = _
  unfold rdCells apO
  cases st[i]? with
  | none => rfl
  | some x =>
    cases x with
    | map _ => rfl
    | cells l =>
      simp only
      split <;> rfl
theorem ev_ldE {st : List Ob} {n p : Nat} {xs : List SV} (h : p + n ≤ xs.length) : ev st (.load n true) [.elv xs p] = some (ro (.agg ((xs.drop p).take n)), [], st) := by
  show Option.map _ (Option.map _ (partV n true xs p)) = _
  unfold partV
  rw [if_pos rfl, if_pos h]; rfl
theorem ev_fldE {st : List Ob} {off p : Nat} {xs : List SV} : ev st (.fld off) [.elv xs p] = some (.elv xs (p + off), [], st) := _root_.id rfl

end Go.Sh
