/-
  The shadow machine, part Tl: loops, what is flagged, bytes.
-/
import Derived.Test.YtlknoahpliaigaaDoorShS
set_option linter.unusedSimpArgs false
set_option linter.unusedVariables false
namespace Go.Sh
def lpK (k : Nat) (I : S → Prop) (μ : S → Nat) (m : Nat) (Q : Ex → S → Prop) : Ex → S → Prop := fun e s' => match e with | .normal => ∃ s'', Forget k s' s'' ∧ I s'' ∧ μ s'' < m | e => Q e s'
section
variable {k m : Nat} {I : S → Prop} {μ : S → Nat} {Q : Ex → S → Prop} {s : S}
theorem lpK_n : lpK k I μ m Q .normal s = ∃ s'', Forget k s s'' ∧ I s'' ∧ μ s'' < m := _root_.id rfl
theorem lpK_e {i : Nat} : lpK k I μ m Q (.exit i) s = Q (.exit i) s := _root_.id rfl
theorem lpK_r : lpK k I μ m Q .ret s = Q .ret s := _root_.id rfl
theorem lpK_g {i : Nat} : lpK k I μ m Q (.goto i) s = Q (.goto i) s := _root_.id rfl
theorem swp_lp {O : Orc} {a : SC} (I : S → Prop) (μ : S → Nat) (s0 : S) (h0 : Forget s.st.length s s0) (hI : I s0)
    (h : ∀ s1, I s1 → swp O a (lpK s.st.length I μ (μ s1) Q) s1) : swp O (.loop a) Q s := swp_loop I μ s0 h0 hI h
end
section
variable {xs ys : List SV} {n id off es : Nat} {k : IntKind} {i : Int} {b : Bool} {l : List UInt8} {f : FuncId}
theorem flg_undef : flg .undef = false := _root_.id rfl
theorem flg_bool : flg (.bool b) = false := _root_.id rfl
theorem flg_int : flg (.int k i) = false := _root_.id rfl
theorem flg_str : flg (.str l) = false := _root_.id rfl
theorem flg_nilS : flg .nilS = false := _root_.id rfl
theorem flg_nilP : flg .nilP = false := _root_.id rfl
theorem flg_ptr : flg (.ptr id off) = false := _root_.id rfl
theorem flg_agg : flg (.agg xs) = false := _root_.id rfl
theorem flg_tup : flg (.tup xs) = false := _root_.id rfl
theorem flg_nilF : flg .nilF = false := _root_.id rfl
theorem flg_fn : flg (.fn f xs ys) = false := _root_.id rfl
theorem flg_nilM : flg .nilM = false := _root_.id rfl
theorem flg_mp : flg (.mp id) = false := _root_.id rfl
theorem flg_elv : flg (.elv xs n) = false := _root_.id rfl
theorem flg_ro : flg (.sl xs n .ro) = false := _root_.id rfl
theorem flg_full : flg (.sl xs n .full) = false := _root_.id rfl
theorem flg_own : flg (.sl xs n (.own es)) = true := _root_.id rfl
theorem flg_excl : flg (.sl xs n (.excl es)) = true := _root_.id rfl
theorem exc_undef : exc .undef = false := _root_.id rfl
theorem exc_bool : exc (.bool b) = false := _root_.id rfl
theorem exc_int : exc (.int k i) = false := _root_.id rfl
theorem exc_str : exc (.str l) = false := _root_.id rfl
theorem exc_nilS : exc .nilS = false := _root_.id rfl
theorem exc_nilP : exc .nilP = false := _root_.id rfl
theorem exc_ptr : exc (.ptr id off) = false := _root_.id rfl
theorem exc_agg : exc (.agg xs) = false := _root_.id rfl
theorem exc_tup : exc (.tup xs) = false := _root_.id rfl
theorem exc_nilF : exc .nilF = false := _root_.id rfl
theorem exc_fn : exc (.fn f xs ys) = false := _root_.id rfl
theorem exc_nilM : exc .nilM = false := _root_.id rfl
theorem exc_mp : exc (.mp id) = false := _root_.id rfl
theorem exc_elv : exc (.elv xs n) = false := _root_.id rfl
theorem exc_ro : exc (.sl xs n .ro) = false := _root_.id rfl
theorem exc_full : exc (.sl xs n .full) = false := _root_.id rfl
theorem exc_own : exc (.sl xs n (.own es)) = false := _root_.id rfl
theorem exc_excl : exc (.sl xs n (.excl es)) = true := _root_.id rfl
end
section
theorem fg_e : fg [] [] := trivial
theorem fg_d {a : SV} {p q : List SV} (h : fg p q) : fg (a :: p) (.undef :: q) := ⟨.inr rfl, h⟩
theorem fg_k {a b : SV} {p q : List SV} (e : b = a) (h : fg p q) : fg (a :: p) (b :: q) := ⟨.inl e, h⟩
end
def bsv (l : List UInt8) : List SV := l.map fun b => .int .u8 b.toNat
theorem bsv_len (l : List UInt8) : (bsv l).length = l.length := by simp [bsv]
theorem bsv_app (l m : List UInt8) : bsv l ++ bsv m = bsv (l ++ m) := by simp [bsv]
theorem bsv_take (l : List UInt8) (n : Nat) : (bsv l).take n = bsv (l.take n) := by simp [bsv, List.map_take]
theorem bsv_drop (l : List UInt8) (n : Nat) : (bsv l).drop n = bsv (l.drop n) := by simp [bsv, List.map_drop]
theorem bsv_at (l : List UInt8) (i : Nat) (b : UInt8) (h : l[i]? = some b) : (bsv l)[i]? = some (.int .u8 b.toNat) := by simp [bsv, h]
theorem b2s_bsv {st : List Ob} {l : List UInt8} {n : Nat} {f : Fl} : ev st .b2s [.sl (bsv l) n f] = if n = l.length then some (.str l, [], st) else none := b2s_bytes
def rdL {α : Type} (f : α → SV) (v : SV) (l : List α) : Prop := (v = .nilS ∧ l = []) ∨ v = .sl (l.map f) l.length .ro
theorem rdL_facts {α : Type} {f : α → SV} {v : SV} {l : List α} (h : rdL f v l) : ro v = v ∧ got v = v ∧ exc v = false ∧ flg v = false ∧ ∀ st, ev st .lenL [v] = some (.int .i64 l.length, [], st) := by
  rcases h with ⟨rfl, rfl⟩ | rfl
  · exact ⟨rfl, rfl, rfl, rfl, fun _ => ev_lenN⟩
  · exact ⟨rfl, rfl, rfl, rfl, fun _ => ev_lenL⟩
def rdR {α : Type} (f : α → List SV) (v : SV) (l : List α) : Prop := (v = .nilS ∧ l = []) ∨ v = .sl (l.flatMap f) l.length .ro
theorem ev_ldA {st : List Ob} {i o n : Nat} : ev st (.load n true) [.ptr i o] = apO (st[i]?) fun l => if o + n ≤ l.length then some (ro (.agg ((l.drop o).take n)), [], st) else none := by
  show Option.map _ ((rdCells st i o n).bind _) = _
  unfold rdCells apO
  cases st[i]? with
  | none => rfl
  | some x =>
    cases x with
    | map _ => rfl
    | cells l =>
      simp only
      split <;> rfl
theorem ev_ldE {st : List Ob} {n p : Nat} {xs : List SV} (h : p + n ≤ xs.length) : ev st (.load n true) [.elv xs p] = some (ro (.agg ((xs.drop p).take n)), [], st) := by
  show Option.map _ (Option.map _ (partV n true xs p)) = _
  unfold partV
  rw [if_pos rfl, if_pos h]; rfl
theorem ev_fldE {st : List Ob} {off p : Nat} {xs : List SV} : ev st (.fld off) [.elv xs p] = some (.elv xs (p + off), [], st) := _root_.id rfl
end Go.Sh
