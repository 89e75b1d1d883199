/-
  The shadow machine, part E: operations that change nothing are as the model's.
-/
import Derived.Test.YtihhaeklacphbaaDoorShD
import Derived.Laws.Strings
import Derived.Lib.SmallJoins
set_option linter.unusedSimpArgs false
set_option linter.unusedVariables false
namespace Go.Sh

/-- What the temporaries that are copies hold. -/
def Sub (σ : Sg) (a : Act) : Prop := ∀ t y, (t, y) ∈ σ → a.eval (.tmp t) = a.eval (.tmp y)

theorem lookup_mem {σ : Sg} {t y : Nat} (h : σ.lookup t = some y) : (t, y) ∈ σ := by
  induction σ with
  | nil => simp at h
  | cons p σ ih =>
    obtain ⟨k, v⟩ := p
    rw [List.lookup_cons] at h
    split at h
    · rename_i he
      simp only [beq_iff_eq] at he
      subst he
      simp only [Option.some.injEq] at h
      subst h
      simp
    · exact List.mem_cons_of_mem _ (ih h)

theorem litOf_ok {v : Value} {sv : SV} (h : litOf v = some sv) (g : Gh) (w : World) (o : Option Owner) : V g w o v sv := by
  unfold litOf at h
  split at h <;> first
    | (simp only [Option.some.injEq] at h; subst h; constructor)
    | cases h

theorem argV {P : Program} {g : Gh} {w : World} {s : S} {a : Act} {σ : Sg} (he : EnvOk g w s.env a.tmps) (hσ : Sub σ a) {x : Operand} {ar : Arg} (h : argOf σ x = some ar) :
    ∃ o, V g w o (a.eval x) (ar.raw s) := by
  cases x with
  | tmp t =>
    simp only [argOf, Option.some.injEq] at h
    subst h
    cases hl : σ.lookup t with
    | none => exact ⟨_, he.get t⟩
    | some y =>
      refine ⟨slotO y, ?_⟩
      rw [hσ t y (lookup_mem hl)]
      exact he.get y
  | const v =>
    simp only [argOf, Option.map_eq_some_iff] at h
    obtain ⟨sv, h1, rfl⟩ := h
    exact ⟨none, litOf_ok h1 g w none⟩
  | global g => simp [argOf] at h
  | func f =>
    simp only [argOf, Option.some.injEq] at h
    subst h
    exact ⟨none, .fn none f #[] #[] [] [] rfl rfl (fun i h => by simp at h) (fun i h => by simp at h)⟩

section
variable {P : Program} {g : Gh} {w : World}

theorem run_und {t : TypeId} {d : TypeDesc} (h : P.underlying t = some d) : (underlying t).run P w = .ok d w := run_underlying h w

theorem run_info {t : TypeId} {i : TypeInfo} (h : P.info? t = some i) : (typeInfo t).run P w = .ok i w := by
  simp [typeInfo, h]

theorem sz_inv {t : TypeId} {n : Nat} (h : sz P t = some n) : ∃ i, P.info? t = some i ∧ i.size = n := by
  unfold sz at h
  split at h
  · simpa only [Option.map_eq_some_iff] using h
  · cases h

theorem run_size {t : TypeId} {n : Nat} (h : sz P t = some n) : (sizeOf t).run P w = .ok n w := by
  obtain ⟨i, hi, rfl⟩ := sz_inv h
  simp [sizeOf, run_info hi]

theorem sz_und {t : TypeId} {n : Nat} (h : sz P t = some n) : ∃ d, P.underlying t = some d := by
  unfold sz at h
  split at h
  · rename_i d hd; exact ⟨d, hd⟩
  · cases h

theorem run_isAgg {t : TypeId} {d : TypeDesc} (h : P.underlying t = some d) : (Go.isAgg t).run P w = .ok (Sh.isAgg P t) w := by
  unfold Go.isAgg Sh.isAgg
  simp only [Sem.run_bind, run_und h, Result.andThen_ok, h]
  cases d <;> rfl

/-! Values that were read as something are of that shape. -/

theorem V.int_inv {o : Option Owner} {v : Value} {k : IntKind} {n : Int} (h : V g w o v (.int k n)) : v = .int k n := by cases h; rfl
theorem V.bool_inv {o : Option Owner} {v : Value} {b : Bool} (h : V g w o v (.bool b)) : v = .bool b := by cases h; rfl
theorem V.str_inv {o : Option Owner} {v : Value} {l : List UInt8} (h : V g w o v (.str l)) : ∃ s : ByteArray, v = .string s ∧ s.data.toList = l := by cases h; exact ⟨_, rfl, rfl⟩

theorem V.mk_str {o : Option Owner} {s : ByteArray} {l : List UInt8} (h : s.data.toList = l) : V g w o (.string s) (.str l) := by subst h; exact .str o s

theorem toList_eq (s : ByteArray) : s.toList = s.data.toList := ByteArray.toList_eq s

theorem size_eq (s : ByteArray) : s.size = s.data.toList.length := by rw [Array.length_toList]; rfl

theorem binI_ok {op : BinOp} {k : IntKind} {a b : Int} {r : SV} (h : binI op k a b = some r) (t : TypeId) :
    ∃ rv, (binOp op t (.int k a) (.int k b)).run P w = .ok rv w ∧ V g w none rv r := by
  cases op <;> simp only [binI, Option.some.injEq, reduceCtorEq] at h <;> first
    | (subst h; refine ⟨.int k _, ?_, .int _ _ _⟩; simp only [binOp, ne_eq, not_true, if_false, Op.intArith, Op.intBits]; rfl)
    | (subst h; refine ⟨.bool _, ?_, .bool _ _⟩; simp only [binOp, ne_eq, not_true, if_false, Op.intCmp]; rfl)
    | (split at h
       · cases h
       · rename_i hb
         simp only [Option.some.injEq] at h
         subst h
         refine ⟨.int k _, ?_, .int _ _ _⟩
         simp only [binOp, ne_eq, not_true, if_false, Op.intDiv, if_neg hb]
         rfl)

theorem size_append (x y : ByteArray) : (x ++ y).data.toList = x.data.toList ++ y.data.toList := by
  rw [ByteArray.data_append]
  simp

theorem binS_ok {op : BinOp} {x y : ByteArray} {r : SV} (h : binS op x.data.toList y.data.toList = some r) (t : TypeId) :
    ∃ rv, (binOp op t (.string x) (.string y)).run P w = .ok rv w ∧ V g w none rv r := by
  have e1 := toList_eq x
  have e2 := toList_eq y
  cases op <;> simp only [binS, Option.some.injEq, reduceCtorEq] at h <;> first
    | (subst h
       refine ⟨.bool _, ?_, .bool _ _⟩
       simp only [binOp, Op.stringOp, e1, e2]
       rfl)
    | (split at h
       · rename_i hs
         simp only [Option.some.injEq] at h
         subst h
         rw [← size_eq, ← size_eq] at hs
         have hn : ¬ (((x.size + y.size : Nat) : Int) > IntKind.i64.max) := by
           have : IntKind.i64.max = 9223372036854775807 := by decide
           rw [this]; omega
         exact ⟨.string (x ++ y), by simp only [binOp, Op.stringOp, if_neg hn]; rfl, .mk_str (size_append x y)⟩
       · cases h)


/-- The guard ahead of '==' lets plain values by. -/
theorem eqGuard_plain (op : BinOp) (t : TypeId) (x y : Operand) (a b : Value) (h : (∀ cs, a ≠ .agg cs) ∧ a ≠ .nilIface) : (eqGuard op t x y a b).run P w = .ok () w := by
  obtain ⟨h1, h2⟩ := h
  cases a <;> first
    | exact absurd rfl (h1 _)
    | exact absurd rfl h2
    | (cases op <;> rfl)

theorem binV_ok {op : BinOp} {o1 o2 : Option Owner} {x y : Value} {sx sy r : SV} (hx : V g w o1 x sx) (hy : V g w o2 y sy) (h : binV op sx sy = some r) (t : TypeId) :
    ∃ rv, (binOp op t x y).run P w = .ok rv w ∧ V g w none rv r := by
  unfold binV at h
  split at h
  · rename_i k a k' b
    obtain rfl := hx.int_inv
    obtain rfl := hy.int_inv
    split at h
    · split at h
      · cases h
      · rename_i hb
        simp only [Option.some.injEq] at h
        subst h
        exact ⟨.int k _, by simp only [binOp, Op.shift, if_neg hb]; rfl, .int _ _ _⟩
    · split at h
      · cases h
      · rename_i hb
        simp only [Option.some.injEq] at h
        subst h
        exact ⟨.int k _, by simp only [binOp, Op.shift, if_neg hb]; rfl, .int _ _ _⟩
    · split at h
      · rename_i hk
        subst hk
        exact binI_ok h t
      · cases h
  · obtain ⟨s1, rfl, rfl⟩ := hx.str_inv
    obtain ⟨s2, rfl, rfl⟩ := hy.str_inv
    exact binS_ok h t
  · cases h

/-- The pure operations: what is shown of each. -/
def PvOk (P : Program) (g : Gh) (w : World) (a : Act) (o : Oper) (r : SV) : Prop := ∃ rv, (execOp a.eval o).run P w = .ok (.value rv) w ∧ V g w none rv r

theorem PvOk.of {a : Act} {o : Oper} {r : SV} {m : Sem Value} (he : execOp a.eval o = (do pure (.value (← m)))) (h : ∃ rv, m.run P w = .ok rv w ∧ V g w none rv r) : PvOk P g w a o r := by
  obtain ⟨rv, h1, h2⟩ := h
  exact ⟨rv, by rw [he]; simp [h1], h2⟩

theorem pv_move {a : Act} {o : Oper} {x : Operand} {sv : SV} {ow : Option Owner} (ho : o.op = .move x ∨ o.op = .assign x) (hx : V g w ow (a.eval x) sv) : PvOk P g w a o (ro sv) := by
  refine ⟨a.eval x, ?_, hx.ro none⟩
  rcases ho with ho | ho <;> simp [execOp, ho]

theorem pv_pick {a : Act} {o : Oper} {c x y : Operand} {b : Bool} {sx sy : SV} {o1 o2 o3 : Option Owner} (ho : o.op = .pick c x y) (hc : V g w o1 (a.eval c) (.bool b)) (hx : V g w o2 (a.eval x) sx) (hy : V g w o3 (a.eval y) sy) :
    PvOk P g w a o (ro (if b then sx else sy)) := by
  refine ⟨if b then a.eval x else a.eval y, ?_, ?_⟩
  · simp [execOp, ho, hc.bool_inv, asBool]
  · cases b
    · exact hy.ro none
    · exact hx.ro none

theorem pv_bin {a : Act} {o : Oper} {op : BinOp} {t u : TypeId} {x y : Operand} {sx sy r : SV} {o1 o2 : Option Owner} (ho : o.op = .binOp op t x y u) (hx : V g w o1 (a.eval x) sx) (hy : V g w o2 (a.eval y) sy) (h : binV op sx sy = some r) :
    PvOk P g w a o r := by
  obtain ⟨rv, h1, h2⟩ := binV_ok (P := P) hx hy h t
  have hg : (∀ cs, a.eval x ≠ .agg cs) ∧ a.eval x ≠ .nilIface := by
    unfold binV at h
    split at h
    · rw [hx.int_inv]; exact ⟨fun _ e => Value.noConfusion e, fun e => Value.noConfusion e⟩
    · obtain ⟨s1, e1, _⟩ := hx.str_inv; rw [e1]; exact ⟨fun _ e => Value.noConfusion e, fun e => Value.noConfusion e⟩
    · cases h
  exact ⟨rv, by simp [execOp, ho, eqGuard_plain (P := P) (w := w) op t x y _ (a.eval y) hg, h1], h2⟩

theorem run_equal_bool {t : TypeId} (ht : P.underlying t = some .bool) (x y : Bool) : (Op.equal t (.bool x) (.bool y)).run P w = .ok (x == y) w := by
  have h : ∀ n, (Op.equalIn (n + 1) t (.bool x) (.bool y)).run P w = .ok (x == y) w := fun n => by simp [Op.equalIn, run_und ht]
  exact h 9999

theorem pv_eqB {a : Act} {o : Oper} {neq : Bool} {t u : TypeId} {x y : Operand} {b c : Bool} {o1 o2 : Option Owner} (ho : o.op = .binOp (if neq then .neq else .eql) t x y u) (ht : P.underlying t = some .bool)
    (hx : V g w o1 (a.eval x) (.bool b)) (hy : V g w o2 (a.eval y) (.bool c)) : PvOk P g w a o (.bool (if neq then !(b == c) else b == c)) := by
  refine ⟨.bool (if neq then !(b == c) else b == c), ?_, .bool _ _⟩
  have hg : (∀ cs, a.eval x ≠ .agg cs) ∧ a.eval x ≠ .nilIface := by rw [hx.bool_inv]; exact ⟨fun _ e => Value.noConfusion e, fun e => Value.noConfusion e⟩
  simp only [execOp, ho, Sem.run_bind, eqGuard_plain (P := P) (w := w) _ t x y _ (a.eval y) hg, Result.andThen_ok]
  rw [hx.bool_inv, hy.bool_inv]
  cases neq <;> simp [binOp, run_equal_bool ht]

theorem pv_eqN {a : Act} {o : Oper} {k : NK} {neq : Bool} {t u : TypeId} {x y : Operand} {sx sy : SV} {b c : Bool} {o1 o2 : Option Owner} (ho : o.op = .binOp (if neq then .neq else .eql) t x y u)
    (ht : match k with | .s => ∃ e, P.underlying t = some (.slice e) | .p => ∃ e, P.underlying t = some (.pointer e) | .f => ∃ p q r, P.underlying t = some (.func p q r) | .m => ∃ k e, P.underlying t = some (.map k e))
    (hx : V g w o1 (a.eval x) sx) (hy : V g w o2 (a.eval y) sy) (hb : isNil k sx = some b) (hc : isNil k sy = some c) (hbc : (b || c) = true) :
    PvOk P g w a o (.bool (if neq then !(b && c) else b && c)) := by
  refine ⟨.bool (if neq then !(b && c) else b && c), ?_, .bool _ _⟩
  have key : (∀ cs, a.eval x ≠ .agg cs) ∧ a.eval x ≠ .nilIface ∧ (∀ (n : Nat), (Op.equalIn (n + 1) t (a.eval x) (a.eval y)).run P w = .ok (b && c) w) ∧
      (∀ op, op = .eql ∨ op = .neq → binOp op t (a.eval x) (a.eval y) = (match op with | .eql => do pure (.bool (← Op.equal t (a.eval x) (a.eval y))) | _ => do pure (.bool (!(← Op.equal t (a.eval x) (a.eval y)))))) := by
    generalize a.eval x = vx at hx
    generalize a.eval y = vy at hy
    cases k <;> cases hx <;> simp only [isNil, Option.some.injEq, reduceCtorEq] at hb <;> cases hy <;> simp only [isNil, Option.some.injEq, reduceCtorEq] at hc <;> subst hb <;> subst hc <;>
      first
      | (simp at hbc; done)
      | (refine ⟨fun _ e => Value.noConfusion e, fun e => Value.noConfusion e, fun n => ?_, ?_⟩
         · first
           | (obtain ⟨e, ht⟩ := ht; simp [Op.equalIn, run_und ht]; done)
           | (obtain ⟨p, q, r, ht⟩ := ht; simp [Op.equalIn, run_und ht]; done)
           | (obtain ⟨k, e, ht⟩ := ht; simp [Op.equalIn, run_und ht]; done)
         · rintro op (rfl | rfl) <;> rfl)
  obtain ⟨k1, k2, k3, k4⟩ := key
  simp only [execOp, ho, Sem.run_bind, eqGuard_plain (P := P) (w := w) _ t x y _ (a.eval y) ⟨k1, k2⟩, Result.andThen_ok]
  rw [k4 _ (by cases neq <;> simp)]
  have e9 : (Op.equal t (a.eval x) (a.eval y)).run P w = .ok (b && c) w := k3 9999
  cases neq <;> simp [e9]

end
end Go.Sh
