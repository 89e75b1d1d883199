/-
  The shadow machine, part Z: going through a function's code, step by step.
-/
import Derived.Test.YtihhaeklacphbaaDoorShY
set_option linter.unusedSimpArgs false
set_option linter.unusedVariables false
namespace Go.Sh

/-! What goes on behind a step, by name, so that nothing is gone into ahead of its turn. -/

def seqK (O : Orc) (b : SC) (Q : Ex → S → Prop) : Ex → S → Prop := fun e s' => match e with | .normal => swp O b Q s' | e => Q e s'
def blkK (id : Nat) (Q : Ex → S → Prop) : Ex → S → Prop := fun e s' => match e with | .exit i => if i = id then Q .normal s' else Q (.exit i) s' | e => Q e s'
def noGoto (Q : Ex → S → Prop) : Ex → S → Prop := fun e s'' => match e with | .goto _ => False | e => Q e s''
def scpK (O : Orc) (l : Nat) (rest : SC) (Q : Ex → S → Prop) : Ex → S → Prop := fun e s' => match e with | .goto l' => l' = l ∧ swp O rest (noGoto Q) s' | e => Q e s'
def finK (res : List RV) (st : List Ob) (R : SV → List Ob → Prop) : Ex → S → Prop := fun e s => match e with
  | .exit _ | .goto _ => False
  | _ => ∃ r st', retOf res s = some r ∧ Trim st.length s.st st' [r] ∧ R r st'
def condK (v : SV) (A B : S → Prop) (s : S) : Prop := ∃ t, v = .bool t ∧ if t then A s else B s
def appK (K : S → Prop) (s : S) (i : SI) (r : SV) (wb : List (Nat × SV)) (st' : List Ob) : Prop := K (s.app i r wb st')
def evK (x : Res) (K : SV → List (Nat × SV) → List Ob → Prop) : Prop := ∃ r wb st', x = some (r, wb, st') ∧ K r wb st'
def callK (O : Orc) (f : FuncId) (vs : List SV) (st : List Ob) (K : SV → List Ob → Prop) : Prop := ∃ r st', O f vs st r st' ∧ K r st'
def appC (K : S → Prop) (s : S) (i : SI) (wb : List (Nat × SV)) (r : SV) (st' : List Ob) : Prop := K (s.app i r wb st')
def grdK (v : SV) (b : Bool) (A B : Prop) : Prop := match v with | .bool x => if x = b then A else B | .tup [] => B | _ => False

@[congr] theorem grdK_congr {v v' : SV} {b : Bool} {A B : Prop} (h : v = v') : grdK v b A B = grdK v' b A B := congrArg (fun v => grdK v b A B) h

variable {O : Orc} {Q : Ex → S → Prop} {s : S}

theorem swp_seq {a b : SC} : swp O (.seq a b) Q s = swp O a (seqK O b Q) s := _root_.id rfl
theorem swp_reg {l : List SI} : swp O (.reg l) Q s = srun O l (Q .normal) s := _root_.id rfl
theorem swp_skip : swp O .skip Q s = Q .normal s := _root_.id rfl
theorem swp_ret : swp O .ret Q s = Q .ret s := _root_.id rfl
theorem swp_exit {id : Nat} : swp O (.exit id) Q s = Q (.exit id) s := _root_.id rfl
theorem swp_label {id : Nat} : swp O (.label id) Q s = Q .normal s := _root_.id rfl
theorem swp_goto {id : Nat} : swp O (.goto id) Q s = Q (.goto id) s := _root_.id rfl
theorem swp_block {id : Nat} {a : SC} : swp O (.block id a) Q s = swp O a (blkK id Q) s := _root_.id rfl
theorem swp_scope {a r : SC} {l : Nat} : swp O (.scope a l r) Q s = swp O a (scpK O l r Q) s := _root_.id rfl
theorem swp_both {a : SC} : swp O (.both a .tt) Q s = swp O a Q s := by show (_ ∧ True) = _; rw [and_true]
theorem swp_cond {c : Arg} {a b : SC} : swp O (.cond c a b) Q s = condK (c.raw s) (swp O a Q) (swp O b Q) s := _root_.id rfl
theorem seqK_n {b : SC} : seqK O b Q .normal s = swp O b Q s := _root_.id rfl
theorem seqK_e {b : SC} {i : Nat} : seqK O b Q (.exit i) s = Q (.exit i) s := _root_.id rfl
theorem seqK_r {b : SC} : seqK O b Q .ret s = Q .ret s := _root_.id rfl
theorem seqK_g {b : SC} {i : Nat} : seqK O b Q (.goto i) s = Q (.goto i) s := _root_.id rfl
theorem blkK_n {i : Nat} : blkK i Q .normal s = Q .normal s := _root_.id rfl
theorem blkK_e {i j : Nat} : blkK i Q (.exit j) s = if j = i then Q .normal s else Q (.exit j) s := _root_.id rfl
theorem blkK_r {i : Nat} : blkK i Q .ret s = Q .ret s := _root_.id rfl
theorem blkK_g {i j : Nat} : blkK i Q (.goto j) s = Q (.goto j) s := _root_.id rfl
theorem noG_n : noGoto Q .normal s = Q .normal s := _root_.id rfl
theorem noG_e {i : Nat} : noGoto Q (.exit i) s = Q (.exit i) s := _root_.id rfl
theorem noG_r : noGoto Q .ret s = Q .ret s := _root_.id rfl
theorem scpK_n {i : Nat} {r : SC} : scpK O i r Q .normal s = Q .normal s := _root_.id rfl
theorem scpK_e {i j : Nat} {r : SC} : scpK O i r Q (.exit j) s = Q (.exit j) s := _root_.id rfl
theorem scpK_r {i : Nat} {r : SC} : scpK O i r Q .ret s = Q .ret s := _root_.id rfl
theorem scpK_g {i : Nat} {r : SC} : scpK O i r Q (.goto i) s = swp O r (noGoto Q) s := by show (i = i ∧ _) = _; simp
theorem condK_t {A B : S → Prop} : condK (.bool true) A B s = A s := by simp [condK]
theorem condK_f {A B : S → Prop} : condK (.bool false) A B s = B s := by simp [condK]
theorem evK_some {r : SV} {wb : List (Nat × SV)} {st' : List Ob} {K : SV → List (Nat × SV) → List Ob → Prop} : evK (some (r, wb, st')) K = K r wb st' := by
  apply propext
  constructor
  · rintro ⟨_, _, _, h, k⟩; cases h; exact k
  · exact fun k => ⟨_, _, _, rfl, k⟩
theorem appK_eq {K : S → Prop} {i : SI} {r : SV} {wb : List (Nat × SV)} {st' : List Ob} : appK K s i r wb st' = K (S.put { env := wback i.a s.env wb, st := st' } i.d r) := _root_.id rfl
theorem appC_eq {K : S → Prop} {i : SI} {r : SV} {wb : List (Nat × SV)} {st' : List Ob} : appC K s i wb r st' = K (S.put { env := wback i.a s.env wb, st := st' } i.d r) := _root_.id rfl
theorem grd_t {x b : Bool} {A B : Prop} : grdK (.bool x) b A B = if x = b then A else B := _root_.id rfl
theorem grd_s {b : Bool} {A B : Prop} : grdK (.tup []) b A B = B := _root_.id rfl
theorem srun_nil {K : S → Prop} : srun O [] K s = K s := _root_.id rfl
theorem srun_cons {i : SI} {l : List SI} {K : S → Prop} : srun O (i :: l) K s = stepK O i (srun O l K) s := _root_.id rfl

theorem stepK_call {d : Option Nat} {f : FuncId} {a : List Arg} {K : S → Prop} : stepK O ⟨d, .call f, a, none⟩ K s = callK O f ((a.map (Arg.raw s)).map got) s.st (appC K s ⟨d, .call f, a, none⟩ (pubs (a.map (Arg.raw s)))) := by
  apply propext
  unfold stepK callK appC
  simp only [known, wanted, if_true, true_and, stepV]
  constructor
  · rintro ⟨r, wb, st', ⟨h, rfl⟩, k⟩; exact ⟨r, st', h, k⟩
  · rintro ⟨r, st', h, k⟩; exact ⟨r, _, st', ⟨h, rfl⟩, k⟩

/-- A call that neither sees nor changes objects. -/
def callpK (O : Orc) (f : FuncId) (vs : List SV) (K : SV → Prop) : Prop := ∃ r, (∀ st2, O f vs st2 r st2) ∧ K r
theorem stepK_callp {d : Option Nat} {f : FuncId} {a : List Arg} {K : S → Prop} : stepK O ⟨d, .callp f, a, none⟩ K s = callpK O f ((a.map (Arg.raw s)).map got) fun r => appC K s ⟨d, .callp f, a, none⟩ (pubs (a.map (Arg.raw s))) r s.st := by
  apply propext
  unfold stepK callpK appC
  simp only [known, wanted, if_true, true_and, stepV]
  constructor
  · rintro ⟨r, wb, st', ⟨⟨h, rfl⟩, rfl⟩, k⟩; exact ⟨r, h, k⟩
  · rintro ⟨r, h, k⟩; exact ⟨r, _, _, ⟨⟨h, rfl⟩, rfl⟩, k⟩
theorem callpK_intro {f : FuncId} {vs : List SV} {K : SV → Prop} {r : SV} (h : ∀ st2, O f vs st2 r st2) (k : K r) : callpK O f vs K := ⟨r, h, k⟩

theorem stepK_op {d : Option Nat} {c : Opc} {a : List Arg} {K : S → Prop} (hc : isCall c = false) : stepK O ⟨d, c, a, none⟩ K s = evK (ev s.st c (a.map (Arg.raw s))) (appK K s ⟨d, c, a, none⟩) := by
  unfold stepK evK appK
  simp only [known, wanted, if_true, true_and]
  cases c <;> first | rfl | (simp [isCall] at hc; done)

theorem stepK_grd {d : Option Nat} {c : Opc} {a : List Arg} {t : Nat} {b : Bool} {K : S → Prop} : stepK O ⟨d, c, a, some (t, b)⟩ K s = grdK (s.get t) b (stepK O ⟨d, c, a, none⟩ K s) (K (s.put d (.tup []))) := by
  apply propext
  unfold stepK grdK
  simp only [known, wanted, if_true, true_and]
  obtain ⟨v, hg⟩ : ∃ v, s.get t = v := ⟨_, rfl⟩
  cases v with
  | bool x => simp only [hg, true_and, beq_iff_eq]; exact Iff.rfl
  | tup xs => cases xs <;> simp [hg]
  | _ => simp [hg]

/-- A call of a function's value. -/
def callvK (O : Orc) (vs : List SV) (st : List Ob) (K : SV → List Ob → Prop) : Prop := match vs with | .fn f first cap :: vs => callK O f (first ++ vs.map got ++ cap) st K | _ => False
theorem callvK_fn {f : FuncId} {first cap vs : List SV} {st : List Ob} {K : SV → List Ob → Prop} : callvK O (.fn f first cap :: vs) st K = callK O f (first ++ vs.map got ++ cap) st K := _root_.id rfl
theorem stepK_callv {d : Option Nat} {a : List Arg} {K : S → Prop} : stepK O ⟨d, .callv, a, none⟩ K s = callvK O (a.map (Arg.raw s)) s.st (appC K s ⟨d, .callv, a, none⟩ (pubs (a.map (Arg.raw s)))) := by
  apply propext
  unfold stepK appC
  simp only [known, wanted, if_true, true_and]
  generalize a.map (Arg.raw s) = vs
  constructor
  · rintro ⟨r, wb, st', h, k⟩
    cases vs with
    | nil => simp [stepV, ev, pv] at h
    | cons v vs =>
      obtain ⟨⟨f, first, cap, rfl, h⟩, rfl⟩ := h
      exact ⟨r, st', h, k⟩
  · intro h
    match vs, h with
    | .fn f first cap :: vs, ⟨r, st', h1, h2⟩ => exact ⟨r, _, st', ⟨⟨f, first, cap, rfl, h1⟩, rfl⟩, h2⟩

/-- A call that takes its first operand over. -/
def callxK (O : Orc) (f : FuncId) (vs : List SV) (st : List Ob) (K : SV → List Ob → Prop) : Prop := match vs with | v :: vs => ∃ hv, headX v = some hv ∧ callK O (XB + f) (hv :: vs.map pub) st K | _ => False
theorem callxK_x {f : FuncId} {xs : List SV} {n : Nat} {vs : List SV} {st : List Ob} {K : SV → List Ob → Prop} : callxK O f (.sl xs n (.excl 2) :: vs) st K = callK O (XB + f) (.sl xs n (.excl 2) :: vs.map pub) st K := propext ⟨fun ⟨hv, e, h⟩ => by cases e; exact h, fun h => ⟨_, rfl, h⟩⟩
theorem callxK_n {f : FuncId} {vs : List SV} {st : List Ob} {K : SV → List Ob → Prop} : callxK O f (.nilS :: vs) st K = callK O (XB + f) (.sl [] 0 (.excl 0) :: vs.map pub) st K := propext ⟨fun ⟨hv, e, h⟩ => by cases e; exact h, fun h => ⟨_, rfl, h⟩⟩
theorem stepK_callx {d : Option Nat} {f : FuncId} {a : List Arg} {K : S → Prop} : stepK O ⟨d, .callx f, a, none⟩ K s = callxK O f (a.map (Arg.raw s)) s.st (appC K s ⟨d, .callx f, a, none⟩ (pubsFrom 1 (a.map (Arg.raw s)).tail ++ [(0, .undef)])) := by
  apply propext
  unfold stepK appC
  simp only [known, wanted, if_true, true_and]
  generalize a.map (Arg.raw s) = vs
  constructor
  · rintro ⟨r, wb, st', h, k⟩
    cases vs with
    | nil => simp [stepV, ev, pv] at h
    | cons v vs =>
      obtain ⟨⟨hv, h0, h⟩, rfl⟩ := h
      exact ⟨hv, h0, r, st', h, k⟩
  · intro h
    match vs, h with
    | v :: vs, ⟨hv, h0, r, st', h1, h2⟩ => exact ⟨r, _, st', ⟨⟨hv, h0, h1⟩, rfl⟩, h2⟩
theorem pub_int {k : IntKind} {i : Int} : pub (.int k i) = .int k i := _root_.id rfl
theorem pub_str {l : List UInt8} : pub (.str l) = .str l := _root_.id rfl
theorem pub_agg {xs : List SV} : pub (.agg xs) = .agg xs := _root_.id rfl
theorem pub_roS {xs : List SV} {n : Nat} : pub (.sl xs n .ro) = .sl xs n .ro := _root_.id rfl
theorem pub_nilS : pub .nilS = .nilS := _root_.id rfl

theorem fin_ret {t : Nat} {st : List Ob} {R : SV → List Ob → Prop} : finK [.tmp t] st R .ret s = ∃ st', Trim st.length s.st st' [s.get t] ∧ R (s.get t) st' := by
  apply propext
  constructor
  · rintro ⟨r, st', h, k⟩; cases h; exact ⟨st', k⟩
  · rintro ⟨st', k⟩; exact ⟨_, st', rfl, k⟩
theorem fin_n {res : List RV} {st : List Ob} {R : SV → List Ob → Prop} : finK res st R .normal s = finK res st R .ret s := _root_.id rfl
theorem fin_nil {st : List Ob} {R : SV → List Ob → Prop} : finK [] st R .ret s = ∃ st', Trim st.length s.st st' [.tup []] ∧ R (.tup []) st' := by
  apply propext
  constructor
  · rintro ⟨r, st', h, k⟩; cases h; exact ⟨st', k⟩
  · rintro ⟨st', k⟩; exact ⟨_, st', rfl, k⟩
theorem fin_two {t u : Nat} {st : List Ob} {R : SV → List Ob → Prop} : finK [.tmp t, .tmp u] st R .ret s = ∃ st', Trim st.length s.st st' [.tup [s.get t, s.get u]] ∧ R (.tup [s.get t, s.get u]) st' := by
  apply propext
  constructor
  · rintro ⟨r, st', h, k⟩; cases h; exact ⟨st', k⟩
  · rintro ⟨st', k⟩; exact ⟨_, st', rfl, k⟩
theorem fin_three {t u v : Nat} {st : List Ob} {R : SV → List Ob → Prop} : finK [.tmp t, .tmp u, .tmp v] st R .ret s = ∃ st', Trim st.length s.st st' [.tup [s.get t, s.get u, s.get v]] ∧ R (.tup [s.get t, s.get u, s.get v]) st' := by
  apply propext
  constructor
  · rintro ⟨r, st', h, k⟩; cases h; exact ⟨st', k⟩
  · rintro ⟨st', k⟩; exact ⟨_, st', rfl, k⟩
theorem swpF_eq {sf : SF} {args : List SV} {st : List Ob} {R : SV → List Ob → Prop} : swpF O sf args st R = swp O sf.body (finK sf.res st R) { env := args ++ List.replicate (sf.nt - args.length) .undef, st } := by
  unfold swpF
  congr 1

theorem Trim.same {k : Nat} {st : List Ob} {vs : List SV} : Trim k st st vs := .inl rfl

theorem swp_loop {a : SC} (I : S → Prop) (μ : S → Nat) (s0 : S) (h0 : Forget s.st.length s s0) (hI : I s0)
    (h : ∀ s1, I s1 → swp O a (fun e s' => match e with | .normal => ∃ s'', Forget s.st.length s' s'' ∧ I s'' ∧ μ s'' < μ s1 | e => Q e s') s1) : swp O (.loop a) Q s := ⟨I, μ, ⟨s0, h0, hI⟩, h⟩

theorem callK_intro {f : FuncId} {vs : List SV} {st : List Ob} {K : SV → List Ob → Prop} {r : SV} {st' : List Ob} (h : O f vs st r st') (k : K r st') : callK O f vs st K := ⟨r, st', h, k⟩

/-! What operations yield. -/
section
variable {st : List Ob} {v x y : SV} {n m : Int} {k k' : IntKind}
theorem get_mk {env : List SV} {t : Nat} : S.get ⟨env, st⟩ t = env.getD t .undef := _root_.id rfl
theorem raw_slot {t : Nat} : Arg.raw s (.slot t) = s.get t := _root_.id rfl
theorem raw_lit : Arg.raw s (.lit v) = v := _root_.id rfl
theorem put_some {env : List SV} {d : Nat} : S.put ⟨env, st⟩ (some d) v = ⟨env.set d v, st⟩ := _root_.id rfl
theorem put_none {env : List SV} : S.put ⟨env, st⟩ none v = ⟨env, st⟩ := _root_.id rfl
theorem wb_nil {a : List Arg} {env : List SV} : wback a env [] = env := _root_.id rfl
theorem wb_cons {a : List Arg} {env : List SV} {j : Nat} {r : List (Nat × SV)} : wback a env ((j, v) :: r) = wback a (match a[j]? with | some (.slot t) => env.set t v | _ => env) r := _root_.id rfl

theorem ev_mv : ev st .mv [v] = some (ro v, [], st) := _root_.id rfl
theorem ev_take : ev st .take [v] = some (got v, if exc v then [(0, pub v)] else [], st) := _root_.id rfl
theorem ev_give : ev st .give [v] = if flg v then some (v, [(0, ro v)], st) else some (ro v, [], st) := _root_.id rfl
theorem ev_pick {b : Bool} : ev st .pick [.bool b, x, y] = some (ro (if b then x else y), [], st) := _root_.id rfl
theorem ev_bin {op : BinOp} : ev st (.bin op) [x, y] = (binV op x y).map fun r => (r, [], st) := _root_.id rfl
theorem ev_eqB {a b : Bool} {neq : Bool} : ev st (.eqB neq) [.bool a, .bool b] = some (.bool (if neq then !(a == b) else a == b), [], st) := _root_.id rfl
theorem ev_not {b : Bool} : ev st (.un .not) [.bool b] = some (.bool !b, [], st) := _root_.id rfl
theorem ev_cvI : ev st (.cvI k) [.int k' n] = some (.int k (k.wrap n), [], st) := _root_.id rfl
theorem ev_nilc {i o : Nat} : ev st .nilc [.ptr i o] = some (.ptr i o, [], st) := _root_.id rfl
theorem ev_fld {i o off : Nat} : ev st (.fld off) [.ptr i o] = some (.ptr i (o + off), [], st) := _root_.id rfl
theorem ev_lenS {l : List UInt8} : ev st .lenS [.str l] = some (.int .i64 l.length, [], st) := _root_.id rfl
theorem ev_lenL {xs : List SV} {n : Nat} {f : Fl} : ev st .lenL [.sl xs n f] = some (.int .i64 n, [], st) := _root_.id rfl
theorem ev_lenN : ev st .lenL [.nilS] = some (.int .i64 0, [], st) := _root_.id rfl
theorem ev_min : ev st .min [.int k n, .int k' m] = some (.int k (if m < n then m else n), [], st) := _root_.id rfl
theorem ev_max : ev st .max [.int k n, .int k' m] = some (.int k (if m > n then m else n), [], st) := _root_.id rfl
theorem ev_eqNs1 {neq : Bool} : ev st (.eqN .s neq) [.nilS, .nilS] = some (.bool (if neq then false else true), [], st) := by cases neq <;> rfl
theorem ev_eqNs2 {neq : Bool} {xs : List SV} {n : Nat} {f : Fl} : ev st (.eqN .s neq) [.sl xs n f, .nilS] = some (.bool (if neq then true else false), [], st) := by cases neq <;> rfl
theorem ev_eqNp1 {neq : Bool} : ev st (.eqN .p neq) [.nilP, .nilP] = some (.bool (if neq then false else true), [], st) := by cases neq <;> rfl
theorem ev_eqNp2 {neq : Bool} {i o : Nat} : ev st (.eqN .p neq) [.ptr i o, .nilP] = some (.bool (if neq then true else false), [], st) := by cases neq <;> rfl
theorem ev_ext {i : Nat} {xs : List SV} : ev st (.ext i) [.tup xs] = (xs[i]?).map fun v => if flg v then (v, [(0, .tup (xs.set i (ro v)))], st) else (ro v, [], st) := _root_.id rfl
theorem ev_slcL {es : Nat} {lo hi mx : Bool} {r : List SV} : ev st (.slcL es lo hi mx) (v :: r) = slcV es lo hi mx v r st := _root_.id rfl
theorem ev_app {es bytes : Nat} {z : List SV} : ev st (.app es bytes z) [x, y] = appV es bytes x y st := _root_.id rfl
theorem ev_s2b {l : List UInt8} (h : l.length ≤ 1073741824) : ev st .s2b [.str l] = some (.sl (l.map fun b => .int .u8 b.toNat) l.length (.excl 1), [], st) := by show (if _ then _ else _) = _; rw [if_pos h]
theorem ev_b2sN : ev st .b2s [.nilS] = some (.str [], [], st) := _root_.id rfl
theorem ev_bsl {es len : Nat} {z : List SV} {at_ : List Nat} {vs : List SV} : ev st (.bsl es len z at_) vs = if at_.length = vs.length ∧ at_.all (· < len) then
      (fillV (rep len z) ((at_.zip vs).map fun (i, v) => (i * es, es, got v))).map fun xs => (.sl xs len (.excl es), pubs vs, st)
    else none := _root_.id rfl
theorem ev_bslO {es len : Nat} {z : List SV} {at_ : List Nat} {vs : List SV} : ev st (.bslO es len z at_) vs = if at_.length = vs.length ∧ at_.all (· < len) then
      (fillV (rep len z) ((at_.zip vs).map fun (i, v) => (i * es, es, got v))).map fun xs => (.slo st.length 0 len, pubs vs, st ++ [.cells xs])
    else none := _root_.id rfl
theorem ev_bld {z : List SV} {at_ : List (Nat × Nat)} {vs : List SV} : ev st (.bld z at_) vs = if at_.length = vs.length then (fillV z ((at_.zip vs).map fun (p, v) => (p.1, p.2, got v))).map fun xs => (.agg xs, pubs vs, st) else none := _root_.id rfl
theorem ev_box : ev st .box [v] = if (cellsV (got v)).all isCell then some (.ptr st.length 0, if exc v then [(0, pub v)] else [], st ++ [.cells (cellsV (got v))]) else none := _root_.id rfl
theorem ev_alloc {z : List SV} : ev st (.alloc z) [] = some (.ptr st.length 0, [], st ++ [.cells z]) := _root_.id rfl
theorem ev_idxS {l : List UInt8} (h : 0 ≤ n) : ev st .idxS [.str l, .int k n] = ((l[n.toNat]?).map fun b => .int .u8 b.toNat).map fun r => (r, [], st) := by
  show Option.map _ (if _ then _ else _) = _; rw [if_pos h]
theorem ev_idxA {es len : Nat} {xs : List SV} {f : Fl} (h0 : 0 ≤ n) (h1 : n < len) (h2 : xs.length = len * es) (hf : exc (.sl xs len f) = false) : ev st (.idxA es) [.sl xs len f, .int k n] = some (.elv xs (n.toNat * es), [], st) := by
  show Option.map _ (if _ then _ else _) = _; rw [if_pos ⟨h0, h1, h2⟩]; cases f <;> first | rfl | (simp [exc] at hf; done)
theorem ev_loadE {n p : Nat} {xs : List SV} : ev st (.load n false) [.elv xs p] = ((xs[p]?).map ro).map fun r => (r, [], st) := _root_.id rfl
theorem ev_loadP {i o : Nat} {l : List SV} (h : st[i]? = some (.cells l)) (ho : o < l.length) : ev st (.load 1 false) [.ptr i o] = ((l[o]?).map ro).map fun r => (r, [], st) := by
  show Option.map _ ((rdCells st i o 1).bind _) = _
  unfold rdCells
  rw [h]
  simp only
  rw [if_pos (by omega)]
  simp only [Option.bind_some, Bool.false_eq_true, if_false]
  congr 2
  rw [List.getElem?_take, if_pos (by omega), List.getElem?_drop]; rfl
theorem ev_slcS {lo hi : Bool} {l : List UInt8} {r : List SV} : ev st (.slcS lo hi) (.str l :: r) = ((if lo then (r[0]?).bind intOfV else some 0).bind fun a => (if hi then (r[if lo then 1 else 0]?).bind intOfV else some (l.length : Int)).bind fun h => if 0 ≤ a ∧ a ≤ h ∧ h ≤ l.length then some (.str ((l.take h.toNat).drop a.toNat)) else none).map fun r => (r, [], st) := _root_.id rfl
end

/-! Reading values. -/
section
variable {xs : List SV} {n : Nat} {k : IntKind} {i : Int} {b : Bool} {l : List UInt8} {id off : Nat} {f : FuncId} {ys : List SV} {es : Nat} {p : Nat}
theorem ro_undef : ro .undef = .undef := _root_.id rfl
theorem ro_int : ro (.int k i) = .int k i := _root_.id rfl
theorem ro_bool : ro (.bool b) = .bool b := _root_.id rfl
theorem ro_str : ro (.str l) = .str l := _root_.id rfl
theorem ro_nilS : ro .nilS = .nilS := _root_.id rfl
theorem ro_nilP : ro .nilP = .nilP := _root_.id rfl
theorem ro_nilF : ro .nilF = .nilF := _root_.id rfl
theorem ro_nilM : ro .nilM = .nilM := _root_.id rfl
theorem ro_ptr : ro (.ptr id off) = .ptr id off := _root_.id rfl
theorem ro_mp : ro (.mp id) = .mp id := _root_.id rfl
theorem ro_fn : ro (.fn f xs ys) = .fn f xs ys := _root_.id rfl
theorem ro_elv : ro (.elv xs p) = .elv xs p := _root_.id rfl
theorem ro_ro : ro (.sl xs n .ro) = .sl xs n .ro := _root_.id rfl
theorem ro_full : ro (.sl xs n .full) = .sl xs n .full := _root_.id rfl
theorem ro_own : ro (.sl xs n (.own es)) = .sl xs n .ro := _root_.id rfl
theorem ro_excl : ro (.sl xs n (.excl es)) = .undef := _root_.id rfl
theorem ro_agg : ro (.agg xs) = .agg (xs.map ro1) := _root_.id rfl
theorem ro_tup : ro (.tup xs) = .tup (xs.map ro2) := _root_.id rfl
theorem ro1_int : ro1 (.int k i) = .int k i := _root_.id rfl
theorem ro1_str : ro1 (.str l) = .str l := _root_.id rfl
theorem ro1_bool : ro1 (.bool b) = .bool b := _root_.id rfl
theorem ro1_nilS : ro1 .nilS = .nilS := _root_.id rfl
theorem ro1_nilP : ro1 .nilP = .nilP := _root_.id rfl
theorem ro1_nilF : ro1 .nilF = .nilF := _root_.id rfl
theorem ro1_nilM : ro1 .nilM = .nilM := _root_.id rfl
theorem ro1_ptr : ro1 (.ptr id off) = .ptr id off := _root_.id rfl
theorem ro1_mp : ro1 (.mp id) = .mp id := _root_.id rfl
theorem ro1_fn : ro1 (.fn f xs ys) = .fn f xs ys := _root_.id rfl
theorem ro1_ro : ro1 (.sl xs n .ro) = .sl xs n .ro := _root_.id rfl
theorem ro1_full : ro1 (.sl xs n .full) = .sl xs n .full := _root_.id rfl
theorem ro1_own : ro1 (.sl xs n (.own es)) = .sl xs n .ro := _root_.id rfl
theorem ro2_nilS : ro2 .nilS = .nilS := _root_.id rfl
theorem ro2_nilP : ro2 .nilP = .nilP := _root_.id rfl
theorem ro2_nilF : ro2 .nilF = .nilF := _root_.id rfl
theorem ro2_nilM : ro2 .nilM = .nilM := _root_.id rfl
theorem ro2_ptr : ro2 (.ptr id off) = .ptr id off := _root_.id rfl
theorem ro2_mp : ro2 (.mp id) = .mp id := _root_.id rfl
theorem ro2_fn : ro2 (.fn f xs ys) = .fn f xs ys := _root_.id rfl
theorem ro2_ro : ro2 (.sl xs n .ro) = .sl xs n .ro := _root_.id rfl
theorem ro2_full : ro2 (.sl xs n .full) = .sl xs n .full := _root_.id rfl
theorem ro2_own : ro2 (.sl xs n (.own es)) = .sl xs n .ro := _root_.id rfl
theorem ro2_int : ro2 (.int k i) = .int k i := _root_.id rfl
theorem ro2_str : ro2 (.str l) = .str l := _root_.id rfl
theorem ro2_bool : ro2 (.bool b) = .bool b := _root_.id rfl
theorem got_excl : got (.sl xs n (.excl es)) = .sl xs n .ro := _root_.id rfl
theorem got_own : got (.sl xs n (.own es)) = .sl xs n .ro := _root_.id rfl
theorem got_roo : got (.sl xs n .ro) = .sl xs n .ro := _root_.id rfl
theorem got_full : got (.sl xs n .full) = .sl xs n .full := _root_.id rfl
theorem got_int : got (.int k i) = .int k i := _root_.id rfl
theorem got_bool : got (.bool b) = .bool b := _root_.id rfl
theorem got_str : got (.str l) = .str l := _root_.id rfl
theorem got_nilS : got .nilS = .nilS := _root_.id rfl
theorem got_nilP : got .nilP = .nilP := _root_.id rfl
theorem got_ptr : got (.ptr id off) = .ptr id off := _root_.id rfl
theorem got_fn : got (.fn f xs ys) = .fn f xs ys := _root_.id rfl
theorem got_mp : got (.mp id) = .mp id := _root_.id rfl
theorem got_undef : got .undef = .undef := _root_.id rfl
theorem got_agg : got (.agg xs) = .agg (xs.map ro1) := _root_.id rfl
theorem pub_excl : pub (.sl xs n (.excl es)) = .sl xs n (.own es) := _root_.id rfl
end

theorem sk_mv {d : Option Nat} {a : List Arg} {K : S → Prop} : stepK O ⟨d, .mv, a, none⟩ K s = evK (ev s.st (.mv) (a.map (Arg.raw s))) (appK K s ⟨d, .mv, a, none⟩) := _root_.id (stepK_op rfl)
theorem sk_take {d : Option Nat} {a : List Arg} {K : S → Prop} : stepK O ⟨d, .take, a, none⟩ K s = evK (ev s.st (.take) (a.map (Arg.raw s))) (appK K s ⟨d, .take, a, none⟩) := _root_.id (stepK_op rfl)
theorem sk_give {d : Option Nat} {a : List Arg} {K : S → Prop} : stepK O ⟨d, .give, a, none⟩ K s = evK (ev s.st (.give) (a.map (Arg.raw s))) (appK K s ⟨d, .give, a, none⟩) := _root_.id (stepK_op rfl)
theorem sk_pick {d : Option Nat} {a : List Arg} {K : S → Prop} : stepK O ⟨d, .pick, a, none⟩ K s = evK (ev s.st (.pick) (a.map (Arg.raw s))) (appK K s ⟨d, .pick, a, none⟩) := _root_.id (stepK_op rfl)
theorem sk_bin {a0 : BinOp} {d : Option Nat} {a : List Arg} {K : S → Prop} : stepK O ⟨d, .bin a0, a, none⟩ K s = evK (ev s.st (.bin a0) (a.map (Arg.raw s))) (appK K s ⟨d, .bin a0, a, none⟩) := _root_.id (stepK_op rfl)
theorem sk_eqB {a0 : Bool} {d : Option Nat} {a : List Arg} {K : S → Prop} : stepK O ⟨d, .eqB a0, a, none⟩ K s = evK (ev s.st (.eqB a0) (a.map (Arg.raw s))) (appK K s ⟨d, .eqB a0, a, none⟩) := _root_.id (stepK_op rfl)
theorem sk_eqN {a0 : NK} {a1 : Bool} {d : Option Nat} {a : List Arg} {K : S → Prop} : stepK O ⟨d, .eqN a0 a1, a, none⟩ K s = evK (ev s.st (.eqN a0 a1) (a.map (Arg.raw s))) (appK K s ⟨d, .eqN a0 a1, a, none⟩) := _root_.id (stepK_op rfl)
theorem sk_eqA {a0 : Bool} {a1 : List KK} {d : Option Nat} {a : List Arg} {K : S → Prop} : stepK O ⟨d, .eqA a0 a1, a, none⟩ K s = evK (ev s.st (.eqA a0 a1) (a.map (Arg.raw s))) (appK K s ⟨d, .eqA a0 a1, a, none⟩) := _root_.id (stepK_op rfl)
theorem sk_un {a0 : UnOp} {d : Option Nat} {a : List Arg} {K : S → Prop} : stepK O ⟨d, .un a0, a, none⟩ K s = evK (ev s.st (.un a0) (a.map (Arg.raw s))) (appK K s ⟨d, .un a0, a, none⟩) := _root_.id (stepK_op rfl)
theorem sk_cvI {a0 : IntKind} {d : Option Nat} {a : List Arg} {K : S → Prop} : stepK O ⟨d, .cvI a0, a, none⟩ K s = evK (ev s.st (.cvI a0) (a.map (Arg.raw s))) (appK K s ⟨d, .cvI a0, a, none⟩) := _root_.id (stepK_op rfl)
theorem sk_b2s {d : Option Nat} {a : List Arg} {K : S → Prop} : stepK O ⟨d, .b2s, a, none⟩ K s = evK (ev s.st (.b2s) (a.map (Arg.raw s))) (appK K s ⟨d, .b2s, a, none⟩) := _root_.id (stepK_op rfl)
theorem sk_s2b {d : Option Nat} {a : List Arg} {K : S → Prop} : stepK O ⟨d, .s2b, a, none⟩ K s = evK (ev s.st (.s2b) (a.map (Arg.raw s))) (appK K s ⟨d, .s2b, a, none⟩) := _root_.id (stepK_op rfl)
theorem sk_idS {d : Option Nat} {a : List Arg} {K : S → Prop} : stepK O ⟨d, .idS, a, none⟩ K s = evK (ev s.st (.idS) (a.map (Arg.raw s))) (appK K s ⟨d, .idS, a, none⟩) := _root_.id (stepK_op rfl)
theorem sk_nilc {d : Option Nat} {a : List Arg} {K : S → Prop} : stepK O ⟨d, .nilc, a, none⟩ K s = evK (ev s.st (.nilc) (a.map (Arg.raw s))) (appK K s ⟨d, .nilc, a, none⟩) := _root_.id (stepK_op rfl)
theorem sk_fld {a0 : Nat} {d : Option Nat} {a : List Arg} {K : S → Prop} : stepK O ⟨d, .fld a0, a, none⟩ K s = evK (ev s.st (.fld a0) (a.map (Arg.raw s))) (appK K s ⟨d, .fld a0, a, none⟩) := _root_.id (stepK_op rfl)
theorem sk_fldV {a0 : Nat} {a1 : Nat} {a2 : Bool} {d : Option Nat} {a : List Arg} {K : S → Prop} : stepK O ⟨d, .fldV a0 a1 a2, a, none⟩ K s = evK (ev s.st (.fldV a0 a1 a2) (a.map (Arg.raw s))) (appK K s ⟨d, .fldV a0 a1 a2, a, none⟩) := _root_.id (stepK_op rfl)
theorem sk_idxS {d : Option Nat} {a : List Arg} {K : S → Prop} : stepK O ⟨d, .idxS, a, none⟩ K s = evK (ev s.st (.idxS) (a.map (Arg.raw s))) (appK K s ⟨d, .idxS, a, none⟩) := _root_.id (stepK_op rfl)
theorem sk_idxV {a0 : Nat} {a1 : Nat} {a2 : Bool} {d : Option Nat} {a : List Arg} {K : S → Prop} : stepK O ⟨d, .idxV a0 a1 a2, a, none⟩ K s = evK (ev s.st (.idxV a0 a1 a2) (a.map (Arg.raw s))) (appK K s ⟨d, .idxV a0 a1 a2, a, none⟩) := _root_.id (stepK_op rfl)
theorem sk_idxA {a0 : Nat} {d : Option Nat} {a : List Arg} {K : S → Prop} : stepK O ⟨d, .idxA a0, a, none⟩ K s = evK (ev s.st (.idxA a0) (a.map (Arg.raw s))) (appK K s ⟨d, .idxA a0, a, none⟩) := _root_.id (stepK_op rfl)
theorem sk_idxB {a0 : Nat} {d : Option Nat} {a : List Arg} {K : S → Prop} : stepK O ⟨d, .idxB a0, a, none⟩ K s = evK (ev s.st (.idxB a0) (a.map (Arg.raw s))) (appK K s ⟨d, .idxB a0, a, none⟩) := _root_.id (stepK_op rfl)
theorem sk_idxP {a0 : Nat} {a1 : Nat} {d : Option Nat} {a : List Arg} {K : S → Prop} : stepK O ⟨d, .idxP a0 a1, a, none⟩ K s = evK (ev s.st (.idxP a0 a1) (a.map (Arg.raw s))) (appK K s ⟨d, .idxP a0 a1, a, none⟩) := _root_.id (stepK_op rfl)
theorem sk_load {a0 : Nat} {a1 : Bool} {d : Option Nat} {a : List Arg} {K : S → Prop} : stepK O ⟨d, .load a0 a1, a, none⟩ K s = evK (ev s.st (.load a0 a1) (a.map (Arg.raw s))) (appK K s ⟨d, .load a0 a1, a, none⟩) := _root_.id (stepK_op rfl)
theorem sk_store {a0 : Nat} {a1 : Bool} {d : Option Nat} {a : List Arg} {K : S → Prop} : stepK O ⟨d, .store a0 a1, a, none⟩ K s = evK (ev s.st (.store a0 a1) (a.map (Arg.raw s))) (appK K s ⟨d, .store a0 a1, a, none⟩) := _root_.id (stepK_op rfl)
theorem sk_lenS {d : Option Nat} {a : List Arg} {K : S → Prop} : stepK O ⟨d, .lenS, a, none⟩ K s = evK (ev s.st (.lenS) (a.map (Arg.raw s))) (appK K s ⟨d, .lenS, a, none⟩) := _root_.id (stepK_op rfl)
theorem sk_idxOx {a0 : Nat} {d : Option Nat} {a : List Arg} {K : S → Prop} : stepK O ⟨d, .idxO a0, a, none⟩ K s = evK (ev s.st (.idxO a0) (a.map (Arg.raw s))) (appK K s ⟨d, .idxO a0, a, none⟩) := _root_.id (stepK_op rfl)
theorem sk_lenL {d : Option Nat} {a : List Arg} {K : S → Prop} : stepK O ⟨d, .lenL, a, none⟩ K s = evK (ev s.st (.lenL) (a.map (Arg.raw s))) (appK K s ⟨d, .lenL, a, none⟩) := _root_.id (stepK_op rfl)
theorem sk_lenA {a0 : Nat} {d : Option Nat} {a : List Arg} {K : S → Prop} : stepK O ⟨d, .lenA a0, a, none⟩ K s = evK (ev s.st (.lenA a0) (a.map (Arg.raw s))) (appK K s ⟨d, .lenA a0, a, none⟩) := _root_.id (stepK_op rfl)
theorem sk_lenM {d : Option Nat} {a : List Arg} {K : S → Prop} : stepK O ⟨d, .lenM, a, none⟩ K s = evK (ev s.st (.lenM) (a.map (Arg.raw s))) (appK K s ⟨d, .lenM, a, none⟩) := _root_.id (stepK_op rfl)
theorem sk_min {d : Option Nat} {a : List Arg} {K : S → Prop} : stepK O ⟨d, .min, a, none⟩ K s = evK (ev s.st (.min) (a.map (Arg.raw s))) (appK K s ⟨d, .min, a, none⟩) := _root_.id (stepK_op rfl)
theorem sk_max {d : Option Nat} {a : List Arg} {K : S → Prop} : stepK O ⟨d, .max, a, none⟩ K s = evK (ev s.st (.max) (a.map (Arg.raw s))) (appK K s ⟨d, .max, a, none⟩) := _root_.id (stepK_op rfl)
theorem sk_slcS {a0 : Bool} {a1 : Bool} {d : Option Nat} {a : List Arg} {K : S → Prop} : stepK O ⟨d, .slcS a0 a1, a, none⟩ K s = evK (ev s.st (.slcS a0 a1) (a.map (Arg.raw s))) (appK K s ⟨d, .slcS a0 a1, a, none⟩) := _root_.id (stepK_op rfl)
theorem sk_slcL {a0 : Nat} {a1 : Bool} {a2 : Bool} {a3 : Bool} {d : Option Nat} {a : List Arg} {K : S → Prop} : stepK O ⟨d, .slcL a0 a1 a2 a3, a, none⟩ K s = evK (ev s.st (.slcL a0 a1 a2 a3) (a.map (Arg.raw s))) (appK K s ⟨d, .slcL a0 a1 a2 a3, a, none⟩) := _root_.id (stepK_op rfl)
theorem sk_mkS {a0 : Nat} {a1 : Nat} {a2 : List SV} {d : Option Nat} {a : List Arg} {K : S → Prop} : stepK O ⟨d, .mkS a0 a1 a2, a, none⟩ K s = evK (ev s.st (.mkS a0 a1 a2) (a.map (Arg.raw s))) (appK K s ⟨d, .mkS a0 a1 a2, a, none⟩) := _root_.id (stepK_op rfl)
theorem sk_bsl {a0 : Nat} {a1 : Nat} {a2 : List SV} {a3 : List Nat} {d : Option Nat} {a : List Arg} {K : S → Prop} : stepK O ⟨d, .bsl a0 a1 a2 a3, a, none⟩ K s = evK (ev s.st (.bsl a0 a1 a2 a3) (a.map (Arg.raw s))) (appK K s ⟨d, .bsl a0 a1 a2 a3, a, none⟩) := _root_.id (stepK_op rfl)
theorem sk_bslO {a0 : Nat} {a1 : Nat} {a2 : List SV} {a3 : List Nat} {d : Option Nat} {a : List Arg} {K : S → Prop} : stepK O ⟨d, .bslO a0 a1 a2 a3, a, none⟩ K s = evK (ev s.st (.bslO a0 a1 a2 a3) (a.map (Arg.raw s))) (appK K s ⟨d, .bslO a0 a1 a2 a3, a, none⟩) := _root_.id (stepK_op rfl)
theorem sk_bld {a0 : List SV} {a1 : List (Nat × Nat)} {d : Option Nat} {a : List Arg} {K : S → Prop} : stepK O ⟨d, .bld a0 a1, a, none⟩ K s = evK (ev s.st (.bld a0 a1) (a.map (Arg.raw s))) (appK K s ⟨d, .bld a0 a1, a, none⟩) := _root_.id (stepK_op rfl)
theorem sk_box {d : Option Nat} {a : List Arg} {K : S → Prop} : stepK O ⟨d, .box, a, none⟩ K s = evK (ev s.st (.box) (a.map (Arg.raw s))) (appK K s ⟨d, .box, a, none⟩) := _root_.id (stepK_op rfl)
theorem sk_alloc {a0 : List SV} {d : Option Nat} {a : List Arg} {K : S → Prop} : stepK O ⟨d, .alloc a0, a, none⟩ K s = evK (ev s.st (.alloc a0) (a.map (Arg.raw s))) (appK K s ⟨d, .alloc a0, a, none⟩) := _root_.id (stepK_op rfl)
theorem sk_ext {a0 : Nat} {d : Option Nat} {a : List Arg} {K : S → Prop} : stepK O ⟨d, .ext a0, a, none⟩ K s = evK (ev s.st (.ext a0) (a.map (Arg.raw s))) (appK K s ⟨d, .ext a0, a, none⟩) := _root_.id (stepK_op rfl)
theorem sk_app {a0 : Nat} {a1 : Nat} {a2 : List SV} {d : Option Nat} {a : List Arg} {K : S → Prop} : stepK O ⟨d, .app a0 a1 a2, a, none⟩ K s = evK (ev s.st (.app a0 a1 a2) (a.map (Arg.raw s))) (appK K s ⟨d, .app a0 a1 a2, a, none⟩) := _root_.id (stepK_op rfl)
theorem sk_mfn {a0 : FuncId} {a1 : Nat} {a2 : Nat} {d : Option Nat} {a : List Arg} {K : S → Prop} : stepK O ⟨d, .mfn a0 a1 a2, a, none⟩ K s = evK (ev s.st (.mfn a0 a1 a2) (a.map (Arg.raw s))) (appK K s ⟨d, .mfn a0 a1 a2, a, none⟩) := _root_.id (stepK_op rfl)


/-! Appending. -/
section
variable {st : List Ob} {z xs ys : List SV} {n m es bytes : Nat} {f : Fl} {l : List UInt8}
theorem app_excl (hx : xs.length = n * es) (hy : ys.length = m * es) (hb : (n + m) * bytes ≤ 140737488355328) (hc : n + m ≤ 4611686018427387904) : ev st (.app es bytes z) [.sl xs n (.excl es), .sl ys m f] = some (.sl (xs ++ ys) (n + m) (.excl es), [(0, .undef)], st) := by
  simp [ev, appV, srcV, hx, hy, hb, hc]
theorem app_own (hx : xs.length = n * es) (hy : ys.length = m * es) (hb : (n + m) * bytes ≤ 140737488355328) (hc : n + m ≤ 4611686018427387904) : ev st (.app es bytes z) [.sl xs n (.own es), .sl ys m f] = some (.sl (xs ++ ys) (n + m) (.own es), [(0, .sl xs n .ro)], st) := by
  simp [ev, appV, srcV, hx, hy, hb, hc]
theorem app_excl_nil (hx : xs.length = n * es) (hb : n * bytes ≤ 140737488355328) (hc : n ≤ 4611686018427387904) : ev st (.app es bytes z) [.sl xs n (.excl es), .nilS] = some (.sl xs n (.excl es), [(0, .undef)], st) := by
  simp [ev, appV, srcV, hx, hb, hc]
theorem app_own_nil (hx : xs.length = n * es) (hb : n * bytes ≤ 140737488355328) (hc : n ≤ 4611686018427387904) : ev st (.app es bytes z) [.sl xs n (.own es), .nilS] = some (.sl xs n (.own es), [(0, .sl xs n .ro)], st) := by
  simp [ev, appV, srcV, hx, hb, hc]
theorem app_excl_str (hx : xs.length = n) (hb : (n + l.length) * bytes ≤ 140737488355328) (hc : n + l.length ≤ 4611686018427387904) : ev st (.app 1 bytes z) [.sl xs n (.excl 1), .str l] = some (.sl (xs ++ l.map fun b => .int .u8 b.toNat) (n + l.length) (.excl 1), [(0, .undef)], st) := by
  simp [ev, appV, srcV, hx, hb, hc]
theorem app_own_str (hx : xs.length = n) (hb : (n + l.length) * bytes ≤ 140737488355328) (hc : n + l.length ≤ 4611686018427387904) : ev st (.app 1 bytes z) [.sl xs n (.own 1), .str l] = some (.sl (xs ++ l.map fun b => .int .u8 b.toNat) (n + l.length) (.own 1), [(0, .sl xs n .ro)], st) := by
  simp [ev, appV, srcV, hx, hb, hc]
theorem app_nil (hy : ys.length = m * es) (hb : m * bytes ≤ 140737488355328) (hc : m ≤ 4611686018427387904) (hm : m ≠ 0) : ev st (.app es bytes z) [.nilS, .sl ys m f] = some (.sl ys m (.excl es), [], st) := by
  simp [ev, appV, srcV, hy, hb, hc, hm]
theorem bsl_nil : ev st (.bsl es 0 z []) [] = some (.sl [] 0 (.excl es), [], st) := by
  simp [ev, fillV, rep, pubs, pubsFrom]
theorem b2s_bytes : ev st .b2s [.sl (l.map fun b => .int .u8 b.toNat) n f] = if n = l.length then some (.str l, [], st) else none := by
  have h : bytesOf (l.map fun b => .int .u8 b.toNat) = some l := by
    unfold bytesOf
    induction l with
    | nil => rfl
    | cons b l ih =>
      rw [List.map_cons, List.mapM_cons]
      simp only [Int.toNat_natCast, UInt8.ofNat_toNat, Option.bind_eq_bind, Option.bind_some, Option.pure_def] at ih ⊢
      rw [ih]; rfl
  show Option.map _ (if _ then _ else _) = _
  rw [List.length_map, h]
  split <;> rfl
end


/-! Numbers and strings. -/
section
variable {st : List Ob} {a b : Int} {k k' : IntKind} {x y : List UInt8}
theorem bin_add : ev st (.bin .add) [.int k a, .int k b] = some (.int k (k.wrap (a + b)), [], st) := by simp [ev, pv, binV, binI]
theorem bin_sub : ev st (.bin .sub) [.int k a, .int k b] = some (.int k (k.wrap (a - b)), [], st) := by simp [ev, pv, binV, binI]
theorem bin_mul : ev st (.bin .mul) [.int k a, .int k b] = some (.int k (k.wrap (a * b)), [], st) := by simp [ev, pv, binV, binI]
theorem bin_and : ev st (.bin .and) [.int k a, .int k b] = some (.int k (k.wrap (BitVec.ofInt k.bits a &&& BitVec.ofInt k.bits b).toNat), [], st) := by simp [ev, pv, binV, binI]
def orI (k : IntKind) (a b : Int) : Int := k.wrap (BitVec.ofInt k.bits a ||| BitVec.ofInt k.bits b).toNat
theorem bin_or : ev st (.bin .or) [.int k a, .int k b] = some (.int k (orI k a b), [], st) := by simp [ev, pv, binV, binI, orI]
theorem bin_xor : ev st (.bin .xor) [.int k a, .int k b] = some (.int k (k.wrap (BitVec.ofInt k.bits a ^^^ BitVec.ofInt k.bits b).toNat), [], st) := by simp [ev, pv, binV, binI]
theorem bin_eql : ev st (.bin .eql) [.int k a, .int k b] = some (.bool (a == b), [], st) := by simp [ev, pv, binV, binI]
theorem bin_neq : ev st (.bin .neq) [.int k a, .int k b] = some (.bool (a != b), [], st) := by simp [ev, pv, binV, binI]
theorem bin_lss : ev st (.bin .lss) [.int k a, .int k b] = some (.bool (a < b), [], st) := by simp [ev, pv, binV, binI]
theorem bin_leq : ev st (.bin .leq) [.int k a, .int k b] = some (.bool (a ≤ b), [], st) := by simp [ev, pv, binV, binI]
theorem bin_gtr : ev st (.bin .gtr) [.int k a, .int k b] = some (.bool (a > b), [], st) := by simp [ev, pv, binV, binI]
theorem bin_geq : ev st (.bin .geq) [.int k a, .int k b] = some (.bool (a ≥ b), [], st) := by simp [ev, pv, binV, binI]
theorem bin_quo (h : ¬ b = 0) : ev st (.bin .quo) [.int k a, .int k b] = some (.int k (k.wrap (a.tdiv b)), [], st) := by simp [ev, pv, binV, binI, h]
theorem bin_rem (h : ¬ b = 0) : ev st (.bin .rem) [.int k a, .int k b] = some (.int k (a.tmod b), [], st) := by simp [ev, pv, binV, binI, h]
theorem bin_shl (h : 0 ≤ b) : ev st (.bin .shl) [.int k a, .int k' b] = some (.int k (k.wrap (a * 2 ^ (Min.min b.toNat k.bits))), [], st) := by
  have : ¬ b < 0 := by omega
  simp [ev, pv, binV, this]
theorem bin_shr (h : 0 ≤ b) : ev st (.bin .shr) [.int k a, .int k' b] = some (.int k (a.fdiv (2 ^ (Min.min b.toNat k.bits))), [], st) := by
  have : ¬ b < 0 := by omega
  simp [ev, pv, binV, this]
theorem bin_eqlS : ev st (.bin .eql) [.str x, .str y] = some (.bool (x == y), [], st) := by simp [ev, pv, binV, binS]
theorem bin_neqS : ev st (.bin .neq) [.str x, .str y] = some (.bool (!(x == y)), [], st) := by simp [ev, pv, binV, binS]
theorem bin_lssS : ev st (.bin .lss) [.str x, .str y] = some (.bool (Op.bytesLess x y), [], st) := by simp [ev, pv, binV, binS]
theorem bin_addS (h : x.length + y.length ≤ 1073741824) : ev st (.bin .add) [.str x, .str y] = some (.str (x ++ y), [], st) := by simp [ev, pv, binV, binS, h]
theorem wrap_i64 (h0 : -9223372036854775808 ≤ a) (h1 : a ≤ 9223372036854775807) : IntKind.i64.wrap a = a := by
  have e : IntKind.i64.wrap a = if a % 18446744073709551616 ≥ 9223372036854775808 then a % 18446744073709551616 - 18446744073709551616 else a % 18446744073709551616 := by
    simp [IntKind.wrap, IntKind.bits, IntKind.signed]
  rw [e]
  split <;> omega
theorem or_step (a b : Nat) (hb : b < 256) (ha : a < 16777216) : orI .i64 ((a : Int) * 256) (b : Int) = ((a * 256 + b : Nat) : Int) := by
  have e1 : ((a : Int) * 256) = ((a * 256 : Nat) : Int) := by simp
  have e2 : (BitVec.ofInt 64 (((a * 256 : Nat) : Int)) ||| BitVec.ofInt 64 (b : Int)).toNat = a * 256 + b := by
    rw [BitVec.ofInt_natCast, BitVec.ofInt_natCast, BitVec.toNat_or, BitVec.toNat_ofNat, BitVec.toNat_ofNat, Nat.mod_eq_of_lt (by omega), Nat.mod_eq_of_lt (by omega)]
    have := Nat.two_pow_add_eq_or_of_lt (i := 8) (b := b) (by omega) a
    rw [show a * 256 = 2 ^ 8 * a by omega]
    exact this.symm
  show IntKind.i64.wrap (((BitVec.ofInt 64 ((a : Int) * 256) ||| BitVec.ofInt 64 (b : Int)).toNat : Nat) : Int) = _
  rw [e1, e2, wrap_i64 (by omega) (by omega)]
theorem or_zero (b : Nat) (hb : b < 256) : orI .i64 0 (b : Int) = (b : Int) := by
  have := or_step 0 b hb (by omega)
  simpa using this
theorem wrap_u8 : IntKind.u8.wrap a = a % 256 := by
  simp [IntKind.wrap, IntKind.bits, IntKind.signed]
end

/-! A loop, round by round. -/
def unr (O : Orc) (a : SC) (Q : Ex → S → Prop) : Nat → S → Prop
  | 0, _ => False
  | n + 1, s => swp O a (fun e s' => match e with | .normal => unr O a Q n s' | e => Q e s') s
def unrK (O : Orc) (a : SC) (Q : Ex → S → Prop) (n : Nat) : Ex → S → Prop := fun e s' => match e with | .normal => unr O a Q n s' | e => Q e s'
theorem unr_succ {O : Orc} {a : SC} {Q : Ex → S → Prop} {n : Nat} {s : S} : unr O a Q (n + 1) s = swp O a (unrK O a Q n) s := _root_.id rfl
theorem unrK_n {O : Orc} {a : SC} {Q : Ex → S → Prop} {n : Nat} {s : S} : unrK O a Q n .normal s = unr O a Q n s := _root_.id rfl
theorem unrK_e {O : Orc} {a : SC} {Q : Ex → S → Prop} {n i : Nat} {s : S} : unrK O a Q n (.exit i) s = Q (.exit i) s := _root_.id rfl
theorem unrK_r {O : Orc} {a : SC} {Q : Ex → S → Prop} {n : Nat} {s : S} : unrK O a Q n .ret s = Q .ret s := _root_.id rfl
theorem unrK_g {O : Orc} {a : SC} {Q : Ex → S → Prop} {n i : Nat} {s : S} : unrK O a Q n (.goto i) s = Q (.goto i) s := _root_.id rfl

theorem swp_mono {O : Orc} : ∀ {a : SC} {Q Q' : Ex → S → Prop} {s : S}, (∀ e s, Q e s → Q' e s) → swp O a Q s → swp O a Q' s := by
  intro a
  induction a with
  | skip => intro Q Q' s h k; exact h _ _ k
  | reg l =>
    intro Q Q' s h k
    have : ∀ (l : List SI) (s : S), srun O l (Q .normal) s → srun O l (Q' .normal) s := by
      intro l
      induction l with
      | nil => exact fun s k => h _ _ k
      | cons i l ih => exact fun s k => stepK_mono (fun s k => ih s k) k
    exact this l s k
  | seq a b iha ihb =>
    intro Q Q' s h k
    refine iha (fun e s k => ?_) k
    cases e with
    | normal => exact ihb h k
    | _ => exact h _ _ k
  | cond c a b iha ihb =>
    intro Q Q' s h k
    obtain ⟨t, ht, k⟩ := k
    refine ⟨t, ht, ?_⟩
    split
    · rename_i htt; rw [if_pos htt] at k; exact iha h k
    · rename_i htt; rw [if_neg htt] at k; exact ihb h k
  | block id a iha =>
    intro Q Q' s h k
    refine iha (fun e s k => ?_) k
    cases e with
    | exit i =>
      simp only at k ⊢
      split
      · rename_i e; rw [if_pos e] at k; exact h _ _ k
      · rename_i e; rw [if_neg e] at k; exact h _ _ k
    | _ => exact h _ _ k
  | loop a iha =>
    intro Q Q' s h k
    obtain ⟨I, μ, h0, k⟩ := k
    refine ⟨I, μ, h0, fun s1 hI => iha (fun e s k => ?_) (k s1 hI)⟩
    cases e with
    | normal => exact k
    | _ => exact h _ _ k
  | exit id => intro Q Q' s h k; exact h _ _ k
  | ret => intro Q Q' s h k; exact h _ _ k
  | both a b iha ihb => intro Q Q' s h k; exact ⟨iha h k.1, ihb h k.2⟩
  | tt => intro Q Q' s h k; trivial
  | scope a l r iha ihr =>
    intro Q Q' s h k
    refine iha (fun e s k => ?_) k
    cases e with
    | goto i =>
      refine ⟨k.1, ihr (fun e s k => ?_) k.2⟩
      cases e with
      | goto i => exact k
      | _ => exact h _ _ k
    | _ => exact h _ _ k
  | label l => intro Q Q' s h k; exact h _ _ k
  | goto l => intro Q Q' s h k; exact h _ _ k

theorem exists_min {p : Nat → Prop} : ∀ n, p n → ∃ m, p m ∧ ∀ k, p k → m ≤ k := by
  intro n
  induction n using Nat.strongRecOn with
  | _ n ih =>
    intro hn
    by_cases h : ∃ k, p k ∧ k < n
    · obtain ⟨k, hk, hlt⟩ := h
      exact ih k hlt hk
    · exact ⟨n, hn, fun k hk => Nat.le_of_not_lt fun hlt => h ⟨k, hk, hlt⟩⟩

theorem swp_unroll {O : Orc} {a : SC} {Q : Ex → S → Prop} {s : S} (n : Nat) (h : unr O a Q n s) : swp O (.loop a) Q s := by
  classical
  have hmin : ∀ t, ∃ μ, (∃ m, unr O a Q m t) → unr O a Q μ t ∧ ∀ k, unr O a Q k t → μ ≤ k := by
    intro t
    by_cases h : ∃ m, unr O a Q m t
    · obtain ⟨m, hm⟩ := h
      obtain ⟨k, h1, h2⟩ := exists_min (p := fun m => unr O a Q m t) m hm
      exact ⟨k, fun _ => ⟨h1, h2⟩⟩
    · exact ⟨0, fun h' => absurd h' h⟩
  refine swp_loop (fun t => ∃ m, unr O a Q m t) (fun t => (hmin t).choose) s ⟨⟨rfl, fun _ => .inl rfl⟩, .same⟩ ⟨n, h⟩ fun t ht => ?_
  obtain ⟨hm, _⟩ := (hmin t).choose_spec ht
  generalize hk : (hmin t).choose = k at hm
  cases k with
  | zero => exact hm.elim
  | succ k =>
    rw [unr_succ] at hm
    refine swp_mono (fun e s' k' => ?_) hm
    cases e with
    | normal =>
      refine ⟨s', ⟨⟨rfl, fun _ => .inl rfl⟩, .same⟩, ⟨k, k'⟩, ?_⟩
      have := ((hmin s').choose_spec ⟨k, k'⟩).2 k k'
      show (hmin s').choose < k + 1
      exact Nat.lt_succ_of_le this
    | _ => exact k'

/-! What is known of the functions. -/

def Orc.add (O : Orc) (f : FuncId) (C : List SV → List Ob → SV → List Ob → Prop) : Orc := fun g args st r st' => O g args st r st' ∨ (g = f ∧ C args st r st')
def Orc.none : Orc := fun _ _ _ _ _ => False

theorem Sound.none {P : Program} : Sound P Orc.none := fun _ _ _ _ _ h => h.elim

def plainB (P : Program) (f : FuncId) : Bool := match P.funcs[f]? with | some fn => fn.body.isSome && !(fn.name == "runtime.NumGoroutine") && decide (f < XB) | none => false

theorem plain_of {P : Program} {f : FuncId} (h : plainB P f = true) : Plain P f := by
  unfold plainB at h
  split at h
  · rename_i fn hf
    simp only [Bool.and_eq_true, Bool.not_eq_true', decide_eq_true_eq] at h
    refine ⟨fn, hf, ?_, h.1.2, h.2⟩
    cases hb : fn.body with
    | none => rw [hb] at h; simp at h
    | some _ => rfl
  · cases h

theorem Sound.add {P : Program} {O : Orc} (hS : Sound P O) {f : FuncId} {sf : SF} (hf : cFunc P f = some sf) (hp : plainB P f = true) {C : List SV → List Ob → SV → List Ob → Prop}
    (h : ∀ args st r st', C args st r st' → args.length ≤ sf.nt ∧ swpF O sf args st (fun r' st'' => r' = r ∧ st'' = st')) : Sound P (O.add f C) := by
  intro g args st r st' hO
  rcases hO with hO | ⟨rfl, hC⟩
  · exact hS g args st r st' hO
  · obtain ⟨hle, hq⟩ := h args st r st' hC
    refine ⟨fun _ => ⟨plain_of hp, fun gh w vs hcl hI hv => ?_⟩, fun hx => absurd hx (Nat.not_le.2 (plain_of hp).lt)⟩
    refine (func_ok hS hf hq hcl hI hv hle).mono ?_
    rintro e w' ⟨r', st'', rv, g', ⟨rfl, rfl⟩, he, h1, h2, h3, h4⟩
    exact ⟨rv, g', he, h1, h2, h3, h4⟩

/-! Parts of strings and slices. -/
section
variable {st : List Ob} {l : List UInt8} {a b : Int} {k k' : IntKind} {xs : List SV} {n es : Nat} {f : Fl}
theorem slcS_hi (h0 : 0 ≤ b) (h1 : b ≤ l.length) : ev st (.slcS false true) [.str l, .int k b] = some (.str (l.take b.toNat), [], st) := by
  simp [ev_slcS, intOfV, h0, h1]
theorem slcS_lo (h0 : 0 ≤ a) (h1 : a ≤ l.length) : ev st (.slcS true false) [.str l, .int k a] = some (.str (l.drop a.toNat), [], st) := by
  simp [ev_slcS, intOfV, h0, h1]
theorem slcS_both (h0 : 0 ≤ a) (h1 : a ≤ b) (h2 : b ≤ l.length) : ev st (.slcS true true) [.str l, .int k a, .int k' b] = some (.str ((l.take b.toNat).drop a.toNat), [], st) := by
  simp [ev_slcS, intOfV, h0, h1, h2]
theorem slcL_hi (h0 : 0 ≤ b) (h1 : b ≤ n) (h2 : xs.length = n * es) (hf : exc (.sl xs n f) = false) : ev st (.slcL es false true false) [.sl xs n f, .int k b] = some (.sl (xs.take (b.toNat * es)) b.toNat .ro, [], st) := by
  simp [ev_slcL, slcV, intOfV, h0, h1, h2, hf]
theorem slcL_lo (h0 : 0 ≤ a) (h1 : a ≤ n) (h2 : xs.length = n * es) (hf : exc (.sl xs n f) = false) : ev st (.slcL es true false false) [.sl xs n f, .int k a] = some (.sl (xs.drop (a.toNat * es)) (n - a).toNat .ro, [], st) := by
  have : xs.take (n * es) = xs := List.take_of_length_le (by omega)
  simp [ev_slcL, slcV, intOfV, h0, h1, h2, hf, this]
theorem slcL_both (h0 : 0 ≤ a) (h1 : a ≤ b) (h2 : b ≤ n) (h3 : xs.length = n * es) (hf : exc (.sl xs n f) = false) : ev st (.slcL es true true false) [.sl xs n f, .int k a, .int k' b] = some (.sl ((xs.take (b.toNat * es)).drop (a.toNat * es)) (b - a).toNat .ro, [], st) := by
  simp [ev_slcL, slcV, intOfV, h0, h1, h2, h3, hf]
theorem slcL_hi_ro (h0 : 0 ≤ b) (h1 : b ≤ n) (h2 : xs.length = n * es) : ev st (.slcL es false true false) [.sl xs n .ro, .int k b] = some (.sl (xs.take (b.toNat * es)) b.toNat .ro, [], st) := slcL_hi h0 h1 h2 rfl
theorem slcL_lo_ro (h0 : 0 ≤ a) (h1 : a ≤ n) (h2 : xs.length = n * es) : ev st (.slcL es true false false) [.sl xs n .ro, .int k a] = some (.sl (xs.drop (a.toNat * es)) (n - a).toNat .ro, [], st) := slcL_lo h0 h1 h2 rfl
theorem slcL_both_ro (h0 : 0 ≤ a) (h1 : a ≤ b) (h2 : b ≤ n) (h3 : xs.length = n * es) : ev st (.slcL es true true false) [.sl xs n .ro, .int k a, .int k' b] = some (.sl ((xs.take (b.toNat * es)).drop (a.toNat * es)) (b - a).toNat .ro, [], st) := slcL_both h0 h1 h2 h3 rfl
theorem idxA_ro (h0 : 0 ≤ a) (h1 : a < n) (h2 : xs.length = n * es) : ev st (.idxA es) [.sl xs n .ro, .int k a] = some (.elv xs (a.toNat * es), [], st) := ev_idxA h0 h1 h2 rfl
theorem slcL_hi_full (h0 : 0 ≤ b) (h1 : b ≤ n) (h2 : xs.length = n * es) : ev st (.slcL es false true false) [.sl xs n .full, .int k b] = some (.sl (xs.take (b.toNat * es)) b.toNat .ro, [], st) := slcL_hi h0 h1 h2 rfl
theorem slcL_lo_full (h0 : 0 ≤ a) (h1 : a ≤ n) (h2 : xs.length = n * es) : ev st (.slcL es true false false) [.sl xs n .full, .int k a] = some (.sl (xs.drop (a.toNat * es)) (n - a).toNat .ro, [], st) := slcL_lo h0 h1 h2 rfl
theorem slcL_both_full (h0 : 0 ≤ a) (h1 : a ≤ b) (h2 : b ≤ n) (h3 : xs.length = n * es) : ev st (.slcL es true true false) [.sl xs n .full, .int k a, .int k' b] = some (.sl ((xs.take (b.toNat * es)).drop (a.toNat * es)) (b - a).toNat .ro, [], st) := slcL_both h0 h1 h2 h3 rfl
theorem idxA_full (h0 : 0 ≤ a) (h1 : a < n) (h2 : xs.length = n * es) : ev st (.idxA es) [.sl xs n .full, .int k a] = some (.elv xs (a.toNat * es), [], st) := ev_idxA h0 h1 h2 rfl
theorem slcL_hi_own {e : Nat} (h0 : 0 ≤ b) (h1 : b ≤ n) (h2 : xs.length = n * es) : ev st (.slcL es false true false) [.sl xs n (.own e), .int k b] = some (.sl (xs.take (b.toNat * es)) b.toNat .ro, [], st) := slcL_hi h0 h1 h2 rfl
theorem slcL_lo_own {e : Nat} (h0 : 0 ≤ a) (h1 : a ≤ n) (h2 : xs.length = n * es) : ev st (.slcL es true false false) [.sl xs n (.own e), .int k a] = some (.sl (xs.drop (a.toNat * es)) (n - a).toNat .ro, [], st) := slcL_lo h0 h1 h2 rfl
theorem slcL_both_own {e : Nat} (h0 : 0 ≤ a) (h1 : a ≤ b) (h2 : b ≤ n) (h3 : xs.length = n * es) : ev st (.slcL es true true false) [.sl xs n (.own e), .int k a, .int k' b] = some (.sl ((xs.take (b.toNat * es)).drop (a.toNat * es)) (b - a).toNat .ro, [], st) := slcL_both h0 h1 h2 h3 rfl
theorem idxA_own {e : Nat} (h0 : 0 ≤ a) (h1 : a < n) (h2 : xs.length = n * es) : ev st (.idxA es) [.sl xs n (.own e), .int k a] = some (.elv xs (a.toNat * es), [], st) := ev_idxA h0 h1 h2 rfl
theorem ev_idxBx {len : Nat} {i : Int} (h0 : 0 ≤ i) (h1 : i < len) (h2 : xs.length = len * es) : ev st (.idxB es) [.sl xs len f, .int k i] = some (.elv xs (i.toNat * es), pubs [.sl xs len f], st) := by
  show (if _ then _ else _) = _; rw [if_pos ⟨h0, h1, h2⟩]
theorem idxB_ro (h0 : 0 ≤ a) (h1 : a < n) (h2 : xs.length = n * es) : ev st (.idxB es) [.sl xs n .ro, .int k a] = some (.elv xs (a.toNat * es), [], st) := ev_idxBx h0 h1 h2
theorem idxB_full (h0 : 0 ≤ a) (h1 : a < n) (h2 : xs.length = n * es) : ev st (.idxB es) [.sl xs n .full, .int k a] = some (.elv xs (a.toNat * es), [], st) := ev_idxBx h0 h1 h2
theorem idxB_own {e : Nat} (h0 : 0 ≤ a) (h1 : a < n) (h2 : xs.length = n * es) : ev st (.idxB es) [.sl xs n (.own e), .int k a] = some (.elv xs (a.toNat * es), [], st) := ev_idxBx h0 h1 h2
theorem idxB_excl {e : Nat} (h0 : 0 ≤ a) (h1 : a < n) (h2 : xs.length = n * es) : ev st (.idxB es) [.sl xs n (.excl e), .int k a] = some (.elv xs (a.toNat * es), [(0, .sl xs n (.own e))], st) := ev_idxBx h0 h1 h2
theorem idxO_x {i : Int} (h0 : 0 ≤ i) (h1 : i < n) : ev st (.idxO es) [.sl xs n (.excl es), .int k i] = some (.ptr st.length (i.toNat * es), [(0, .slo st.length 0 n)], st ++ [.cells xs]) := by
  show (if 0 ≤ i ∧ i < n ∧ es = es then _ else _) = _
  rw [if_pos ⟨h0, h1, rfl⟩]
theorem idxO_O {id off : Nat} {i : Int} (h0 : 0 ≤ i) (h1 : i < n) : ev st (.idxO es) [.slo id off n, .int k i] = some (.ptr id (off + i.toNat * es), [], st) := by
  show (if 0 ≤ i ∧ i < n then _ else _) = _
  rw [if_pos ⟨h0, h1⟩]
theorem idxB_O {id off : Nat} (h0 : 0 ≤ a) (h1 : a < n) : ev st (.idxB es) [.slo id off n, .int k a] = some (.ptr id (off + a.toNat * es), [], st) := by
  show (if _ then _ else _) = _; rw [if_pos ⟨h0, h1⟩]
theorem ev_idxP {len id o : Nat} {i : Int} (h0 : 0 ≤ i) (h1 : i < len) : ev st (.idxP es len) [.ptr id o, .int k i] = some (.ptr id (o + i.toNat * es), [], st) := by
  show Option.map _ (if _ then _ else _) = _; rw [if_pos ⟨h0, h1⟩]; rfl
theorem slcL_mx (h : xs.length = n * es) : ev st (.slcL es false true true) [.sl xs n f, .int k n, .int k' n] = some (.sl xs n .full, if exc (.sl xs n f) then [(0, pub (.sl xs n f))] else [], st) := by
  have e : (n : Int).toNat * es = xs.length := by rw [h]; simp
  simp [ev_slcL, slcV, intOfV, h, e, List.take_of_length_le]
theorem slcL_mx_excl (h : xs.length = n * es) : ev st (.slcL es false true true) [.sl xs n (.excl es), .int k n, .int k' n] = some (.sl xs n .full, [(0, .sl xs n (.own es))], st) := slcL_mx h
theorem slcL_mx_own (h : xs.length = n * es) : ev st (.slcL es false true true) [.sl xs n (.own es), .int k n, .int k' n] = some (.sl xs n .full, [], st) := slcL_mx h
theorem slcL_nil_both : ev st (.slcL es true true false) [.nilS, .int k 0, .int k' 0] = some (.nilS, [], st) := by
  simp [ev_slcL, slcV, intOfV]
theorem slcL_nil_hi : ev st (.slcL es false true false) [.nilS, .int k 0] = some (.nilS, [], st) := by
  simp [ev_slcL, slcV, intOfV]
end

/-! Objects. -/
section
variable {st : List Ob} {l m : List SV} {i j o : Nat} {v : SV}
def ldP (x : Option Ob) (o : Nat) (st : List Ob) : Res := match x with | some (.cells l) => ((l[o]?).map ro).map fun r => (r, [], st) | _ => none
theorem ldP_some : ldP (some (.cells l)) o st = ((l[o]?).map ro).map fun r => (r, [], st) := _root_.id rfl
theorem ev_ldP : ev st (.load 1 false) [.ptr i o] = ldP (st[i]?) o st := by
  show Option.map _ ((rdCells st i o 1).bind _) = _
  unfold rdCells ldP
  cases h : st[i]? with
  | none => rfl
  | some x =>
    cases x with
    | map _ => rfl
    | cells l =>
      simp only
      by_cases ho : o + 1 ≤ l.length
      · rw [if_pos ho]
        simp only [Option.bind_some, Bool.false_eq_true, if_false]
        congr 2
        rw [List.getElem?_take, if_pos (by omega), List.getElem?_drop]; rfl
      · rw [if_neg ho, List.getElem?_eq_none (by omega)]; rfl
def stP (x : Option Ob) (st : List Ob) (i o : Nat) (v : SV) : Res := match x with | some (.cells l) => if o < l.length then some (.undef, [], setOb st i (l.set o v)) else none | _ => none
theorem stP_some : stP (some (.cells l)) st i o v = if o < l.length then some (.undef, [], setOb st i (l.set o v)) else none := _root_.id rfl
/-- A value that is a cell, and owns nothing. -/
def plainV : SV → Bool
  | .bool _ | .int _ _ | .str _ | .nilS | .nilP | .ptr _ _ | .nilF | .fn _ _ _ | .nilM | .mp _ | .elv _ _ | .sl _ _ .ro | .sl _ _ .full => true
  | _ => false
theorem plainV_spec (h : plainV v = true) : flg v = false ∧ exc v = false ∧ ro v = v ∧ got v = v ∧ cellsV v = [v] ∧ isCell v = true := by
  cases v <;> first | (simp [plainV] at h; done) | (refine ⟨rfl, rfl, rfl, rfl, rfl, rfl⟩) | skip
  rename_i f
  cases f <;> first | (simp [plainV] at h; done) | (refine ⟨rfl, rfl, rfl, rfl, rfl, rfl⟩)
theorem ev_stP {b : Bool} (h : plainV v = true) : ev st (.store 1 b) [.ptr i o, v] = stP (st[i]?) st i o v := by
  obtain ⟨h1, h2, h3, h4, h5, h6⟩ := plainV_spec h
  cases b with
  | true =>
    simp only [ev, stP, h1, h3, h5, h6]
    cases st[i]? with
    | none => rfl
    | some x => cases x with
      | map _ => rfl
      | cells l => simp [wrCells, h6, Nat.succ_le_iff]
  | false =>
    simp only [ev, stP, h2, h4, h5, h6]
    cases st[i]? with
    | none => rfl
    | some x => cases x with
      | map _ => rfl
      | cells l => simp [wrCells, h6, Nat.succ_le_iff]
theorem st_bool {x : Bool} {b : Bool} : ev st (.store 1 b) [.ptr i o, .bool x] = stP (st[i]?) st i o (.bool x) := ev_stP (v := .bool x) rfl
theorem st_int {k : IntKind} {n : Int} {b : Bool} : ev st (.store 1 b) [.ptr i o, .int k n] = stP (st[i]?) st i o (.int k n) := ev_stP (v := .int k n) rfl
theorem st_str {x : List UInt8} {b : Bool} : ev st (.store 1 b) [.ptr i o, .str x] = stP (st[i]?) st i o (.str x) := ev_stP (v := .str x) rfl
theorem st_nilS {b : Bool} : ev st (.store 1 b) [.ptr i o, .nilS] = stP (st[i]?) st i o (.nilS) := ev_stP (v := .nilS) rfl
theorem st_nilP {b : Bool} : ev st (.store 1 b) [.ptr i o, .nilP] = stP (st[i]?) st i o (.nilP) := ev_stP (v := .nilP) rfl
theorem st_ptr {a c : Nat} {b : Bool} : ev st (.store 1 b) [.ptr i o, .ptr a c] = stP (st[i]?) st i o (.ptr a c) := ev_stP (v := .ptr a c) rfl
theorem st_nilF {b : Bool} : ev st (.store 1 b) [.ptr i o, .nilF] = stP (st[i]?) st i o (.nilF) := ev_stP (v := .nilF) rfl
theorem st_fn {f : FuncId} {xs ys : List SV} {b : Bool} : ev st (.store 1 b) [.ptr i o, .fn f xs ys] = stP (st[i]?) st i o (.fn f xs ys) := ev_stP (v := .fn f xs ys) rfl
theorem st_nilM {b : Bool} : ev st (.store 1 b) [.ptr i o, .nilM] = stP (st[i]?) st i o (.nilM) := ev_stP (v := .nilM) rfl
theorem st_mp {a : Nat} {b : Bool} : ev st (.store 1 b) [.ptr i o, .mp a] = stP (st[i]?) st i o (.mp a) := ev_stP (v := .mp a) rfl
theorem st_ro {xs : List SV} {n : Nat} {b : Bool} : ev st (.store 1 b) [.ptr i o, .sl xs n .ro] = stP (st[i]?) st i o (.sl xs n .ro) := ev_stP (v := .sl xs n .ro) rfl
theorem st_full {xs : List SV} {n : Nat} {b : Bool} : ev st (.store 1 b) [.ptr i o, .sl xs n .full] = stP (st[i]?) st i o (.sl xs n .full) := ev_stP (v := .sl xs n .full) rfl
theorem setOb_same (h : i < st.length) : (setOb st i l)[i]? = some (.cells l) := by simp [setOb, h]
theorem setOb_ne (h : i ≠ j) : (setOb st i l)[j]? = st[j]? := by simp [setOb, List.getElem?_set_ne h]
theorem setOb_setOb : setOb (setOb st i l) i m = setOb st i m := by simp [setOb]
theorem setOb_len : (setOb st i l).length = st.length := by simp [setOb]
theorem ob_lt {x : Ob} (h : st[i]? = some x) : i < st.length := (List.getElem?_eq_some_iff.1 h).1
end

/-! Slices of objects. -/
theorem sk_giveO {d : Option Nat} {a : List Arg} {K : S → Prop} : stepK O ⟨d, .giveO, a, none⟩ K s = evK (ev s.st (.giveO) (a.map (Arg.raw s))) (appK K s ⟨d, .giveO, a, none⟩) := _root_.id (stepK_op rfl)
theorem sk_cpy {a0 : Nat} {d : Option Nat} {a : List Arg} {K : S → Prop} : stepK O ⟨d, .cpy a0, a, none⟩ K s = evK (ev s.st (.cpy a0) (a.map (Arg.raw s))) (appK K s ⟨d, .cpy a0, a, none⟩) := _root_.id (stepK_op rfl)
theorem sk_slcP {a0 a1 : Nat} {b0 b1 b2 : Bool} {d : Option Nat} {a : List Arg} {K : S → Prop} : stepK O ⟨d, .slcP a0 a1 b0 b1 b2, a, none⟩ K s = evK (ev s.st (.slcP a0 a1 b0 b1 b2) (a.map (Arg.raw s))) (appK K s ⟨d, .slcP a0 a1 b0 b1 b2, a, none⟩) := _root_.id (stepK_op rfl)
section
variable {st : List Ob} {xs ys l : List SV} {n m es bytes id off len : Nat} {f : Fl} {z : List SV} {v : SV} {i a b c : Int} {k k' : IntKind}
theorem ro_slo : ro (.slo id off n) = .slo id off n := _root_.id rfl
theorem ro1_slo : ro1 (.slo id off n) = .slo id off n := _root_.id rfl
theorem ro2_slo : ro2 (.slo id off n) = .slo id off n := _root_.id rfl
theorem got_slo : got (.slo id off n) = .slo id off n := _root_.id rfl
theorem flg_slo : flg (.slo id off n) = false := _root_.id rfl
theorem exc_slo : exc (.slo id off n) = false := _root_.id rfl
theorem ev_giveO_x : ev st .giveO [.sl xs n (.excl es)] = some (.slo st.length 0 n, [(0, .undef)], st ++ [.cells xs]) := _root_.id rfl
theorem ev_giveO_nil : ev st .giveO [.nilS] = some (.nilS, [], st) := _root_.id rfl
theorem ev_giveO_slo : ev st .giveO [.slo id off n] = some (.slo id off n, [], st) := _root_.id rfl
theorem ev_giveO_ro : ev st .giveO [.sl xs n .ro] = some (.sl xs n .ro, [], st) := _root_.id rfl
theorem ev_lenO : ev st .lenL [.slo id off n] = some (.int .i64 n, [], st) := _root_.id rfl
theorem ev_eqNs3 {neq : Bool} : ev st (.eqN .s neq) [.slo id off n, .nilS] = some (.bool (if neq then true else false), [], st) := by cases neq <;> rfl
theorem ev_idxO (h0 : 0 ≤ i) (h1 : i < n) : ev st (.idxA es) [.slo id off n, .int k i] = some (.ptr id (off + i.toNat * es), [], st) := by
  show Option.map _ (if _ then _ else _) = _; rw [if_pos ⟨h0, h1⟩]; rfl
def apO (x : Option Ob) (K : List SV → Res) : Res := match x with | some (.cells l) => K l | _ => none
theorem apO_some {K : List SV → Res} : apO (some (.cells l)) K = K l := _root_.id rfl
theorem ev_b2O : ev st .b2s [.slo id off n] = apO (st[id]?) fun l => if off + n ≤ l.length then ((bytesOf ((l.drop off).take n)).map .str).map fun r => (r, [], st) else none := by
  show Option.map _ ((rdCells st id off n).bind _) = _
  unfold rdCells apO
  cases st[id]? with
  | none => rfl
  | some x =>
    cases x with
    | map _ => rfl
    | cells l =>
      simp only
      split <;> rfl
theorem ev_appO : ev st (.app es bytes z) [v, .slo id off m] = apO (st[id]?) fun l => if off + m * es ≤ l.length then ev st (.app es bytes z) [v, .sl (((l.drop off).take (m * es)).map ro) m .ro] else none := by
  show appV es bytes v (.slo id off m) st = _
  have key : ∀ ys : List SV, ys.length = m * es → srcV st es (.slo id off m) = some (m, ys) → appV es bytes v (.slo id off m) st = appV es bytes v (.sl ys m .ro) st := by
    intro ys hl hs
    unfold appV
    rw [hs]
    simp only [srcV, hl, if_true]
  unfold apO
  cases hx : st[id]? with
  | none => simp [appV, srcV, rdCells, hx]
  | some x =>
    cases x with
    | map _ => simp [appV, srcV, rdCells, hx]
    | cells l =>
      simp only
      split
      · rename_i h
        exact key _ (by simp; omega) (by simp [srcV, rdCells, hx, h])
      · rename_i h
        simp [appV, srcV, rdCells, hx, h]
theorem slcO_clone : ev st (.slcL es false true true) [.slo id off n, .int k 0, .int k' 0] = some (.sl [] 0 .full, [], st) := by
  simp [ev_slcL, slcV, intOfV]
theorem slcO_hi (h0 : 0 ≤ b) (h1 : b ≤ n) : ev st (.slcL es false true false) [.slo id off n, .int k b] = some (.slo id off b.toNat, [], st) := by
  simp [ev_slcL, slcV, intOfV, h0, h1]
theorem slcO_lo (h0 : 0 ≤ a) (h1 : a < n) : ev st (.slcL es true false false) [.slo id off n, .int k a] = some (.slo id (off + a.toNat * es) (n - a).toNat, [], st) := by
  have : a ≤ n := by omega
  simp [ev_slcL, slcV, intOfV, h0, h1, this]
theorem slcO_both (h0 : 0 ≤ a) (h1 : a ≤ b) (h2 : b ≤ n) (h3 : a < n) : ev st (.slcL es true true false) [.slo id off n, .int k a, .int k' b] = some (.slo id (off + a.toNat * es) (b - a).toNat, [], st) := by
  simp [ev_slcL, slcV, intOfV, h0, h1, h2, h3]
theorem slcP_all : ev st (.slcP es len false false false) [.ptr id off] = some (.slo id off len, [], st) := by
  simp [ev, slcPV]
theorem wrCells_eq : ∀ (ys l : List SV) (off : Nat), off + ys.length ≤ l.length → wrCells l off ys = l.take off ++ ys ++ l.drop (off + ys.length)
  | [], l, off, h => by simp [wrCells]
  | y :: ys, l, off, h => by
    simp only [List.length_cons] at h
    simp only [wrCells]
    rw [wrCells_eq ys (l.set off y) (off + 1) (by simp; omega)]
    rw [List.take_add_one, List.getElem?_set_self (by omega), List.take_set_of_le (Nat.le_refl _), List.drop_set_of_lt (by omega)]
    simp only [Option.toList_some, List.append_assoc, List.cons_append, List.nil_append, List.length_cons]
    rw [show off + 1 + ys.length = off + (ys.length + 1) by omega]
theorem ev_cpS : ev st (.cpy es) [.slo id off n, .sl ys m f] = apO (st[id]?) fun l => if m ≤ n ∧ ys.length = m * es ∧ off + ys.length ≤ l.length then some (.int .i64 m, [], setOb st id (l.take off ++ ys ++ l.drop (off + ys.length))) else none := by
  show cpyV es id off n (.sl ys m f) st = _
  unfold cpyV apO
  simp only [srcV]
  by_cases hl : ys.length = m * es
  · rw [if_pos hl]
    simp only [Option.bind_some]
    cases st[id]? with
    | none => rfl
    | some x =>
      cases x with
      | map _ => rfl
      | cells l =>
        simp only
        split
        · rename_i h
          rw [wrCells_eq _ _ _ h.2.2]
        · rfl
  · rw [if_neg hl]
    simp only [Option.bind_none]
    cases st[id]? with
    | none => rfl
    | some x =>
      cases x with
      | map _ => rfl
      | cells l =>
        simp only
        rw [if_neg (fun h => hl h.2.1)]
end

/-! Structs held against each other, and maps. -/
theorem sk_loadG {d : Option Nat} {a : List Arg} {K : S → Prop} : stepK O ⟨d, .loadG, a, none⟩ K s = evK (ev s.st (.loadG) (a.map (Arg.raw s))) (appK K s ⟨d, .loadG, a, none⟩) := _root_.id (stepK_op rfl)
theorem sk_storeO {d : Option Nat} {a : List Arg} {K : S → Prop} : stepK O ⟨d, .storeO, a, none⟩ K s = evK (ev s.st (.storeO) (a.map (Arg.raw s))) (appK K s ⟨d, .storeO, a, none⟩) := _root_.id (stepK_op rfl)
theorem ev_storeO_x {st : List Ob} {xs : List SV} {n es o id : Nat} : ev st .storeO [.ptr id o, .sl xs n (.excl es)] = apO (st[id]?) fun l => if o < l.length then some (.undef, [(1, .undef)], setOb (st ++ [.cells xs]) id (l.set o (.slo st.length 0 n))) else none := by
  show (match st[id]? with | some (.cells l) => _ | _ => none) = _
  unfold apO
  cases st[id]? with
  | none => rfl
  | some x => cases x <;> rfl
theorem ev_storeO_nil {st : List Ob} {o id : Nat} : ev st .storeO [.ptr id o, .nilS] = stP (st[id]?) st id o .nilS := by
  show (match st[id]? with | some (.cells l) => _ | _ => none) = _
  unfold stP
  cases st[id]? with
  | none => rfl
  | some x =>
    cases x with
    | map _ => rfl
    | cells l => simp [flg, cellsV, ro_nilS, isCell, wrCells, Nat.succ_le_iff]
theorem sk_ment {a0 : List KK} {b0 : Bool} {z : SV} {d : Option Nat} {a : List Arg} {K : S → Prop} : stepK O ⟨d, .ment a0 b0 z, a, none⟩ K s = evK (ev s.st (.ment a0 b0 z) (a.map (Arg.raw s))) (appK K s ⟨d, .ment a0 b0 z, a, none⟩) := _root_.id (stepK_op rfl)
theorem sk_mest {d : Option Nat} {a : List Arg} {K : S → Prop} : stepK O ⟨d, .mest, a, none⟩ K s = evK (ev s.st (.mest) (a.map (Arg.raw s))) (appK K s ⟨d, .mest, a, none⟩) := _root_.id (stepK_op rfl)
theorem sk_giveP {d : Option Nat} {a : List Arg} {K : S → Prop} : stepK O ⟨d, .giveP, a, none⟩ K s = evK (ev s.st (.giveP) (a.map (Arg.raw s))) (appK K s ⟨d, .giveP, a, none⟩) := _root_.id (stepK_op rfl)
theorem ev_giveP {st : List Ob} {v : SV} : ev st .giveP [v] = if flg v then some (pub v, [(0, ro v)], st) else some (ro v, [], st) := _root_.id rfl
theorem pub_excl2 {xs : List SV} {n es : Nat} : pub (.sl xs n (.excl es)) = .sl xs n (.own es) := _root_.id rfl
theorem pub_own {xs : List SV} {n es : Nat} : pub (.sl xs n (.own es)) = .sl xs n (.own es) := _root_.id rfl
theorem sk_mkM {d : Option Nat} {a : List Arg} {K : S → Prop} : stepK O ⟨d, .mkM, a, none⟩ K s = evK (ev s.st (.mkM) (a.map (Arg.raw s))) (appK K s ⟨d, .mkM, a, none⟩) := _root_.id (stepK_op rfl)
theorem sk_lkp {a0 : List KK} {b0 b1 : Bool} {z : SV} {d : Option Nat} {a : List Arg} {K : S → Prop} : stepK O ⟨d, .lkp a0 b0 b1 z, a, none⟩ K s = evK (ev s.st (.lkp a0 b0 b1 z) (a.map (Arg.raw s))) (appK K s ⟨d, .lkp a0 b0 b1 z, a, none⟩) := _root_.id (stepK_op rfl)
theorem sk_upd {a0 : List KK} {b0 : Bool} {d : Option Nat} {a : List Arg} {K : S → Prop} : stepK O ⟨d, .upd a0 b0, a, none⟩ K s = evK (ev s.st (.upd a0 b0) (a.map (Arg.raw s))) (appK K s ⟨d, .upd a0 b0, a, none⟩) := _root_.id (stepK_op rfl)
section
variable {st : List Ob} {ks : List KK} {ak ok neq : Bool} {z v x y : SV} {xs ys : List SV} {id : Nat} {k k' : IntKind} {a b : Int} {s1 s2 : List UInt8}
theorem ev_mkM : ev st .mkM [] = some (.mp st.length, [], st ++ [.map []]) := _root_.id rfl
theorem ev_mkM1 : ev st .mkM [.int k a] = some (.mp st.length, [], st ++ [.map []]) := _root_.id rfl
theorem ev_eqA : ev st (.eqA neq ks) [.agg xs, .agg ys] = ((eqKs ks xs ys).map fun b => .bool (if neq then !b else b)).map fun r => (r, [], st) := _root_.id rfl
theorem eqKs_nil : eqKs [] [] [] = some true := _root_.id rfl
theorem eqKs_i {ks : List KK} : eqKs (.i :: ks) (.int k a :: xs) (.int k b :: ys) = if (a == b) then eqKs ks xs ys else some false := by simp [eqKs, eqK]
theorem eqKs_s {ks : List KK} : eqKs (.s :: ks) (.str s1 :: xs) (.str s2 :: ys) = if (s1 == s2) then eqKs ks xs ys else some false := by simp [eqKs, eqK]
theorem eqKs_b {ks : List KK} {a b : Bool} : eqKs (.b :: ks) (.bool a :: xs) (.bool b :: ys) = if (a == b) then eqKs ks xs ys else some false := by simp [eqKs, eqK]
/-- What a map's entries are taken for. -/
def apM (x : Option Ob) (K : List (SV × SV) → Res) : Res := match x with | some (.map l) => K l | _ => none
theorem apM_some {l : List (SV × SV)} {K : List (SV × SV) → Res} : apM (some (.map l)) K = K l := _root_.id rfl
theorem ev_lkp : ev st (.lkp ks ak ok z) [.mp id, x] = apM (st[id]?) fun l => (lkpV ks ak ok z x l).map fun r => (r, [], st) := by
  show Option.map _ (Option.bind (match st[id]? with | some (.map l) => some l | _ => none) _) = _
  unfold apM
  cases st[id]? with
  | none => rfl
  | some o => cases o <;> rfl
theorem ev_lkpN : ev st (.lkp ks ak ok z) [.nilM, x] = (lkpV ks ak ok z x []).map fun r => (r, [], st) := _root_.id rfl
theorem ev_upd : ev st (.upd ks ak) [.mp id, x, v] = apM (st[id]?) fun l => (updV ks ak (ro x) (ro v) l).map fun l' => (.undef, [], st.set id (.map l')) := by
  show (match st[id]? with | some (.map l) => _ | _ => none) = _
  unfold apM
  cases st[id]? with
  | none => rfl
  | some o => cases o <;> rfl
theorem ev_ment : ev st (.ment ks ak z) [.mp id, x] = apM (st[id]?) fun l => (mentV ks ak z (ro x) l).map fun r => (.tup [r.1, .int .i64 r.2.1], [], st.set id (.map r.2.2)) := by
  show (match st[id]? with | some (.map l) => _ | _ => none) = _
  unfold apM
  cases st[id]? with
  | none => rfl
  | some o => cases o <;> rfl
theorem ev_mest : ev st .mest [.mp id, .int k a, v] = apM (st[id]?) fun l => (if 0 ≤ a then l[a.toNat]? else none).map fun p => (.undef, [], st.set id (.map (l.set a.toNat (p.1, ro v)))) := by
  show (match st[id]? with | some (.map l) => _ | _ => none) = _
  unfold apM
  cases st[id]? with
  | none => rfl
  | some o => cases o <;> rfl
theorem ev_loadG {o : Nat} : ev st .loadG [.ptr id o] = apO (st[id]?) fun l => (l[o]?).map fun v => if flg v then (v, [], setOb st id (l.set o (ro v))) else (ro v, [], st) := by
  show (match st[id]? with | some (.cells l) => _ | _ => none) = _
  unfold apO
  cases st[id]? with
  | none => rfl
  | some o => cases o <;> rfl
theorem ev_lenMp : ev st .lenM [.mp id] = apM (st[id]?) fun l => some (.int .i64 l.length, [], st) := by
  show Option.map _ (match st[id]? with | some (.map l) => _ | _ => none) = _
  unfold apM
  cases st[id]? with
  | none => rfl
  | some o => cases o <;> rfl
theorem ev_lenMn : ev st .lenM [.nilM] = some (.int .i64 0, [], st) := _root_.id rfl
end

/-- What a map has, and what it is given. -/
def mget {κ α : Type} [BEq κ] (k : κ) : List (κ × α) → Option α
  | [] => none
  | p :: r => if k == p.1 then some p.2 else mget k r
def mput {κ α : Type} [BEq κ] (k : κ) (x : α) : List (κ × α) → List (κ × α)
  | [] => [(k, x)]
  | p :: r => if k == p.1 then (k, x) :: r else p :: mput k x r

theorem lkp_g {κ α : Type} [BEq κ] {ks : List KK} {ak ok : Bool} {z : SV} {e : κ → SV} {f : α → SV} (h : ∀ a b, keyEq ks ak (e a) (e b) = some (a == b)) (hk : ∀ a, keyOk ks ak (e a) = true) (l : List (κ × α)) (k : κ) :
    lkpV ks ak ok z (e k) (l.map fun p => (e p.1, f p.2)) = some (if ok then .tup [((mget k l).map f).getD z, .bool (mget k l).isSome] else ((mget k l).map f).getD z) := by
  have key : ∀ l : List (κ × α), ∃ r, findI ks ak (e k) (l.map fun p => (e p.1, f p.2)) = some r ∧ (r.bind fun i => (l.map fun p => (e p.1, f p.2))[i]?).map (·.2) = (mget k l).map f := by
    intro l
    induction l with
    | nil => exact ⟨none, rfl, rfl⟩
    | cons p l ih =>
      obtain ⟨r, h1, h2⟩ := ih
      by_cases hb : (k == p.1) = true
      · exact ⟨some 0, by simp [findI, h, hb], by simp [mget, hb]⟩
      · refine ⟨r.map (· + 1), by simp [findI, h, hb, h1], ?_⟩
        simp only [mget, hb, Bool.false_eq_true, if_false]
        rw [← h2]
        cases r <;> simp
  obtain ⟨r, h1, h2⟩ := key l
  unfold lkpV
  rw [if_pos (hk k), h1]
  simp only [Option.map_some, h2]
  cases mget k l <;> rfl

theorem upd_g {κ α : Type} [BEq κ] {ks : List KK} {ak : Bool} {e : κ → SV} {f : α → SV} (h : ∀ a b, keyEq ks ak (e a) (e b) = some (a == b)) (hk : ∀ a, keyOk ks ak (e a) = true) (l : List (κ × α)) (k : κ) (x : α) :
    updV ks ak (e k) (f x) (l.map fun p => (e p.1, f p.2)) = some ((mput k x l).map fun p => (e p.1, f p.2)) := by
  have key : ∀ l : List (κ × α), ∃ r, findI ks ak (e k) (l.map fun p => (e p.1, f p.2)) = some r ∧ (match r with | some i => (l.map fun p => (e p.1, f p.2)).set i (e k, f x) | none => (l.map fun p => (e p.1, f p.2)) ++ [(e k, f x)]) = (mput k x l).map fun p => (e p.1, f p.2) := by
    intro l
    induction l with
    | nil => exact ⟨none, rfl, rfl⟩
    | cons p l ih =>
      obtain ⟨r, h1, h2⟩ := ih
      by_cases hb : (k == p.1) = true
      · exact ⟨some 0, by simp [findI, h, hb], by simp [mput, hb]⟩
      · refine ⟨r.map (· + 1), by simp [findI, h, hb, h1], ?_⟩
        simp only [mput, hb, Bool.false_eq_true, if_false, List.map_cons]
        rw [← h2]
        cases r <;> simp
  obtain ⟨r, h1, h2⟩ := key l
  unfold updV
  rw [if_pos (hk k), h1]
  exact congrArg some h2

theorem ment_g {κ α : Type} [BEq κ] {ks : List KK} {ak : Bool} {z : SV} {e : κ → SV} {f : α → SV} {z0 : α} (h : ∀ a b, keyEq ks ak (e a) (e b) = some (a == b)) (hk : ∀ a, keyOk ks ak (e a) = true) (hz : f z0 = z) (l : List (κ × α)) (k : κ) :
    ∃ i, mentV ks ak z (e k) (l.map fun p => (e p.1, f p.2)) = some (f ((mget k l).getD z0), i, (mput k ((mget k l).getD z0) l).map fun p => (e p.1, f p.2)) ∧
      ∀ x, ((mput k ((mget k l).getD z0) l).map fun p => (e p.1, f p.2))[i]? = some (e k, f ((mget k l).getD z0)) ∧ ((mput k ((mget k l).getD z0) l).map fun p => (e p.1, f p.2)).set i (e k, f x) = (mput k x l).map fun p => (e p.1, f p.2) := by
  have key : ∀ l : List (κ × α), ∃ r, findI ks ak (e k) (l.map fun p => (e p.1, f p.2)) = some r ∧
      (match r with
        | some i => ((((l.map fun p => (e p.1, f p.2))[i]?).map (·.2)).getD z, i, (l.map fun p => (e p.1, f p.2)).set i (e k, (((l.map fun p => (e p.1, f p.2))[i]?).map (·.2)).getD z))
        | none => (z, (l.map fun p => (e p.1, f p.2)).length, (l.map fun p => (e p.1, f p.2)) ++ [(e k, z)])) = (f ((mget k l).getD z0), (match r with | some i => i | none => l.length), (mput k ((mget k l).getD z0) l).map fun p => (e p.1, f p.2)) ∧
      ∀ x, ((mput k ((mget k l).getD z0) l).map fun p => (e p.1, f p.2))[(match r with | some i => i | none => l.length)]? = some (e k, f ((mget k l).getD z0)) ∧ ((mput k ((mget k l).getD z0) l).map fun p => (e p.1, f p.2)).set (match r with | some i => i | none => l.length) (e k, f x) = (mput k x l).map fun p => (e p.1, f p.2) := by
    intro l
    induction l with
    | nil => exact ⟨none, rfl, by simp [mget, mput, hz], fun x => by simp [mget, mput, hz]⟩
    | cons p l ih =>
      obtain ⟨r, h1, h2, h3⟩ := ih
      by_cases hb : (k == p.1) = true
      · exact ⟨some 0, by simp [findI, h, hb], by simp [mget, mput, hb], fun x => by simp [mget, mput, hb]⟩
      · refine ⟨r.map (· + 1), by simp [findI, h, hb, h1], ?_, ?_⟩
        · simp only [mget, mput, hb, Bool.false_eq_true, if_false, List.map_cons]
          cases r with
          | none =>
            simp only [Prod.mk.injEq] at h2
            simp only [Option.map_none, ← h2.2.2, h2.1.symm, List.length_cons, List.length_map, List.cons_append]
          | some i =>
            simp only [Prod.mk.injEq] at h2
            simp only [Option.map_some, List.getElem?_cons_succ, List.set_cons_succ, ← h2.2.2, h2.1]
        · intro x
          obtain ⟨h4, h5⟩ := h3 x
          simp only [mget, mput, hb, Bool.false_eq_true, if_false, List.map_cons]
          cases r with
          | none => exact ⟨by simpa using h4, by simpa using h5⟩
          | some i => exact ⟨by simpa using h4, by simpa using h5⟩
  obtain ⟨r, h1, h2, h3⟩ := key l
  refine ⟨_, ?_, h3⟩
  unfold mentV
  rw [if_pos (hk k), h1]
  exact congrArg some h2

theorem keyI (a b : Int) : keyEq [.i] false (.int .i64 a) (.int .i64 b) = some (a == b) := by simp [keyEq, eqK]
theorem keyS (a b : List UInt8) : keyEq [.s] false (.str a) (.str b) = some (a == b) := by simp [keyEq, eqK]
theorem keyOkF (ks : List KK) (x : SV) : keyOk ks false x = true := _root_.id rfl

/-! Orders, and objects that are dropped. -/
theorem swp_bothI {O : Orc} {Q : Ex → S → Prop} {s : S} {a b : SC} (h : swp O a Q s) (k : swp O b Q s) : swp O (.both a b) Q s := ⟨h, k⟩
theorem swp_ttI {O : Orc} {Q : Ex → S → Prop} {s : S} : swp O .tt Q s := trivial
theorem swp_to {O : Orc} {Q : Ex → S → Prop} {s sF : S} {c : SC} (h : swp O c (fun e s' => e = .normal ∧ s' = sF) s) (k : Q .normal sF) : swp O c Q s :=
  swp_mono (fun e s' h => by obtain ⟨rfl, rfl⟩ := h; exact k) h
/-- No object names one that is not there. -/
def okSt (st : List Ob) : Prop := st.all (obOk st.length) = true
theorem okSt_nil : okSt [] := rfl
theorem trim1 {st x : List Ob} {vs : List SV} (h : okSt st) (hv : idOks st.length vs = true) : Trim st.length (st ++ x) st vs := .inr ⟨Nat.le_refl _, by simp, hv, h⟩
theorem set_end {α : Type} {st : List α} {a b : α} : (st ++ [a]).set st.length b = st ++ [b] := by simp
theorem get_end {α : Type} {st : List α} {a : α} : (st ++ [a])[st.length]? = some a := by simp
theorem idOks_app (k : Nat) : ∀ a b : List SV, idOks k (a ++ b) = (idOks k a && idOks k b)
  | [], b => by simp [idOks]
  | x :: a, b => by simp [idOks, idOks_app k a b, Bool.and_assoc]
mutual
theorem idOk_mono {k k' : Nat} (h : k ≤ k') : ∀ v : SV, idOk k v = true → idOk k' v = true
  | .ptr id _, hv => by simp only [idOk, decide_eq_true_eq] at *; omega
  | .mp id, hv => by simp only [idOk, decide_eq_true_eq] at *; omega
  | .slo id _ _, hv => by simp only [idOk, decide_eq_true_eq] at *; omega
  | .sl xs _ _, hv => idOks_mono h xs hv
  | .agg xs, hv => idOks_mono h xs hv
  | .tup xs, hv => idOks_mono h xs hv
  | .elv xs _, hv => idOks_mono h xs hv
  | .fn _ xs ys, hv => by
    simp only [idOk, Bool.and_eq_true] at *
    exact ⟨idOks_mono h xs hv.1, idOks_mono h ys hv.2⟩
  | .undef, _ => rfl
  | .bool _, _ => rfl
  | .int _ _, _ => rfl
  | .str _, _ => rfl
  | .nilS, _ => rfl
  | .nilP, _ => rfl
  | .nilF, _ => rfl
  | .nilM, _ => rfl
theorem idOks_mono {k k' : Nat} (h : k ≤ k') : ∀ l : List SV, idOks k l = true → idOks k' l = true
  | [], _ => rfl
  | x :: l, hv => by
    simp only [idOks, Bool.and_eq_true] at *
    exact ⟨idOk_mono h x hv.1, idOks_mono h l hv.2⟩
end
theorem okSt_app {st : List Ob} {l : List SV} (h : okSt st) (hl : idOks (st.length + 1) l = true) : okSt (st ++ [.cells l]) := by
  unfold okSt at *
  rw [List.all_eq_true] at *
  intro x hx
  rcases List.mem_append.1 hx with hx | hx
  · have := h x hx
    cases x with
    | cells l => exact idOks_mono (by simp) l this
    | map l =>
      simp only [obOk, List.all_eq_true, Bool.and_eq_true] at this ⊢
      intro p hp
      exact ⟨idOk_mono (by simp) _ (this p hp).1, idOk_mono (by simp) _ (this p hp).2⟩
  · rw [List.mem_singleton.1 hx]
    simpa [obOk] using hl
theorem retOf_cell {p n id : Nat} {s : S} {l : List SV} {r : SV} (h : s.get p = .ptr id 0) (h1 : s.st[id]? = some (.cells l)) (hn : n = l.length) (hr : ro (.agg l) = r) : retOf [.cell p n true] s = some r := by
  subst hn hr
  show retV s (.cell p l.length true) = _
  unfold retV
  simp only [h]
  show Option.bind (rdCells s.st id 0 l.length) _ = _
  unfold rdCells
  rw [h1]
  simp

end Go.Sh
