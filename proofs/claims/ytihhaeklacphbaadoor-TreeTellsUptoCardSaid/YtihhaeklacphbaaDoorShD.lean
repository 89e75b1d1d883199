/-
  The shadow machine, part D: operations that change the state, one step, the code, and the turning of the model's code into it.
-/
import Derived.Test.YtihhaeklacphbaaDoorShC
set_option linter.unusedSimpArgs false
set_option linter.unusedVariables false
namespace Go.Sh

def flg : SV → Bool
  | .sl _ _ (.own _) | .sl _ _ (.excl _) => true
  | _ => false
def exc : SV → Bool
  | .sl _ _ (.excl _) => true
  | _ => false

abbrev Res := Option (SV × List (Nat × SV) × List Ob)

/-- 'x[lo:hi:mx]' of a slice: its cells from lo to hi. -/
def slcV (es : Nat) (lo hi mx : Bool) (v : SV) (r : List SV) (st : List Ob) : Res :=
  let l := if lo then (r[0]?).bind intOfV else some 0
  let n : Int := match v with | .sl _ n _ => n | .slo _ _ n => n | _ => 0
  let h := if hi then (r[if lo then 1 else 0]?).bind intOfV else some n
  let m := if mx then (r[(if lo then 1 else 0) + (if hi then 1 else 0)]?).bind intOfV else some n
  l.bind fun l => h.bind fun h => m.bind fun m =>
    match v with
    | .sl xs n f =>
      if 0 ≤ l ∧ l ≤ h ∧ h ≤ m ∧ m ≤ n ∧ xs.length = n * es then
        some (.sl ((xs.take (h.toNat * es)).drop (l.toNat * es)) (h - l).toNat (if mx && m = h then .full else .ro), if exc (.sl xs n f) then [(0, pub (.sl xs n f))] else [], st)
      else none
    | .nilS => if l = 0 ∧ h = 0 ∧ m = 0 then some (.nilS, [], st) else none
    | .slo id off n => if 0 ≤ l ∧ l ≤ h ∧ h ≤ m ∧ m ≤ n ∧ (l < m ∨ l = 0) then some (if mx && (decide (l = h) && decide (h = m)) then .sl [] 0 .full else .slo id (off + l.toNat * es) (h - l).toNat, [], st) else none
    | _ => none

/-- What is appended: how many, and the cells. -/
def srcV (st : List Ob) (es : Nat) : SV → Option (Nat × List SV)
  | .sl ys m _ => if ys.length = m * es then some (m, ys) else none
  | .nilS => some (0, [])
  | .str s => if es = 1 then some (s.length, s.map fun b => .int .u8 b.toNat) else none
  | .slo id off n => (rdCells st id off (n * es)).map fun l => (n, l.map ro)
  | _ => none

def appV (es bytes : Nat) (x y : SV) (st : List Ob) : Res :=
  (srcV st es y).bind fun (m, ys) =>
    match x with
    | .nilS => if m * bytes ≤ 140737488355328 ∧ m ≤ 4611686018427387904 then some (if m = 0 then .nilS else .sl ys m (.excl es), [], st) else none
    | .sl xs n f =>
      if xs.length = n * es ∧ (n + m) * bytes ≤ 140737488355328 ∧ n + m ≤ 4611686018427387904 then
        match f with
        | .ro => none
        | .full => some (if m = 0 then .sl xs n .full else .sl (xs ++ ys) (n + m) (.excl es), [], st)
        | .own e => if e = es then some (.sl (xs ++ ys) (n + m) (.own es), [(0, .sl xs n .ro)], st) else none
        | .excl e => if e = es then some (.sl (xs ++ ys) (n + m) (.excl es), [(0, .undef)], st) else none
      else none
    | _ => none

def pubsFrom : Nat → List SV → List (Nat × SV)
  | _, [] => []
  | k, v :: r => if exc v then (k, pub v) :: pubsFrom (k + 1) r else pubsFrom (k + 1) r
def pubs (vs : List SV) : List (Nat × SV) := pubsFrom 0 vs

def setOb (st : List Ob) (id : Nat) (l : List SV) : List Ob := st.set id (.cells l)

/-- 'copy(x, y)', x a slice of an object. -/
def cpyV (es id off n : Nat) (y : SV) (st : List Ob) : Res :=
  (srcV st es y).bind fun (m, ys) =>
    match st[id]? with
    | some (.cells l) => if m ≤ n ∧ ys.length = m * es ∧ off + ys.length ≤ l.length then some (.int .i64 m, [], setOb st id (wrCells l off ys)) else none
    | _ => none

/-- 'x[lo:hi:mx]' of an array that is an object. -/
def slcPV (es len : Nat) (lo hi mx : Bool) (id o : Nat) (r : List SV) (st : List Ob) : Res :=
  (if lo then (r[0]?).bind intOfV else some 0).bind fun l => (if hi then (r[if lo then 1 else 0]?).bind intOfV else some (len : Int)).bind fun h => (if mx then (r[(if lo then 1 else 0) + (if hi then 1 else 0)]?).bind intOfV else some (len : Int)).bind fun m =>
    if 0 ≤ l ∧ l ≤ h ∧ h ≤ m ∧ m ≤ len ∧ (l < m ∨ l = 0) then some (.slo id (o + l.toNat * es) (h - l).toNat, [], st) else none

def ev (st : List Ob) (c : Opc) (vs : List SV) : Res :=
  match c, vs with
  | .take, [v] => some (got v, if exc v then [(0, pub v)] else [], st)
  | .give, [v] => if flg v then some (v, [(0, ro v)], st) else some (ro v, [], st)
  | .giveO, [.sl xs n (.excl _)] => some (.slo st.length 0 n, [(0, .undef)], st ++ [.cells xs])
  | .giveO, [v] => if flg v then some (v, [(0, ro v)], st) else some (ro v, [], st)
  | .giveP, [v] => if flg v then some (pub v, [(0, ro v)], st) else some (ro v, [], st)
  | .cpy es, [.slo id off n, y] => cpyV es id off n y st
  | .slcP es len lo hi mx, .ptr id o :: r => slcPV es len lo hi mx id o r st
  | .ext i, [.tup xs] => (xs[i]?).map fun v => if flg v then (v, [(0, .tup (xs.set i (ro v)))], st) else (ro v, [], st)
  | .slcL es lo hi mx, v :: r => slcV es lo hi mx v r st
  | .app es bytes _, [x, y] => appV es bytes x y st
  | .mkM, [] => some (.mp st.length, [], st ++ [.map []])
  | .mkM, [.int _ _] => some (.mp st.length, [], st ++ [.map []])
  | .upd ks ak, [.mp id, k, v] => match st[id]? with
    | some (.map l) => (updV ks ak (ro k) (ro v) l).map fun l' => (.undef, [], st.set id (.map l'))
    | _ => none
  | .ment ks ak z, [.mp id, k] => match st[id]? with
    | some (.map l) => (mentV ks ak z (ro k) l).map fun r => (.tup [r.1, .int .i64 r.2.1], [], st.set id (.map r.2.2))
    | _ => none
  | .mest, [.mp id, .int _ i, v] => match st[id]? with
    | some (.map l) => (if 0 ≤ i then l[i.toNat]? else none).map fun p => (.undef, [], st.set id (.map (l.set i.toNat (p.1, ro v))))
    | _ => none
  | .loadG, [.ptr id o] => match st[id]? with
    | some (.cells l) => (l[o]?).map fun v => if flg v then (v, [], setOb st id (l.set o (ro v))) else (ro v, [], st)
    | _ => none
  | .loadG, [.elv xs p] => (xs[p]?).map fun v => (ro v, [], st)
  | .idxB es, [.sl xs n f, .int _ i] => if 0 ≤ i ∧ i < n ∧ xs.length = n * es then some (.elv xs (i.toNat * es), pubs [.sl xs n f], st) else none
  | .idxB es, [.slo id off n, .int _ i] => if 0 ≤ i ∧ i < n then some (.ptr id (off + i.toNat * es), [], st) else none
  | .idxO es, [.sl xs n (.excl k), .int _ i] => if 0 ≤ i ∧ i < n ∧ k = es then some (.ptr st.length (i.toNat * es), [(0, .slo st.length 0 n)], st ++ [.cells xs]) else none
  | .idxO es, [.slo id off n, .int _ i] => if 0 ≤ i ∧ i < n then some (.ptr id (off + i.toNat * es), [], st) else none
  | .s2b, [.str s] => if s.length ≤ 1073741824 then some (.sl (s.map fun b => .int .u8 b.toNat) s.length (.excl 1), [], st) else none
  | .mkS es bytes zero, [.int .i64 n, .int .i64 m] =>
    if 0 ≤ n ∧ n = m ∧ n * bytes ≤ 140737488355328 ∧ n ≤ 1073741824 then some (.sl (rep n.toNat zero) n.toNat (.excl es), [], st) else none
  | .bsl es len zero at_, vs =>
    if at_.length = vs.length ∧ at_.all (· < len) then
      (fillV (rep len zero) ((at_.zip vs).map fun (i, v) => (i * es, es, got v))).map fun xs => (.sl xs len (.excl es), pubs vs, st)
    else none
  | .bslO es len zero at_, vs =>
    if at_.length = vs.length ∧ at_.all (· < len) then
      (fillV (rep len zero) ((at_.zip vs).map fun (i, v) => (i * es, es, got v))).map fun xs => (.slo st.length 0 len, pubs vs, st ++ [.cells xs])
    else none
  | .bld zero at_, vs =>
    if at_.length = vs.length then (fillV zero ((at_.zip vs).map fun (p, v) => (p.1, p.2, got v))).map fun xs => (.agg xs, pubs vs, st) else none
  | .box, [v] => if (cellsV (got v)).all isCell then some (.ptr st.length 0, if exc v then [(0, pub v)] else [], st ++ [.cells (cellsV (got v))]) else none
  | .alloc zero, [] => some (.ptr st.length 0, [], st ++ [.cells zero])
  | .store n true, [.ptr id o, v] =>
    match st[id]? with
    | some (.cells l) => if flg v then (if n = 1 ∧ o < l.length then some (.undef, [(1, ro (pub v))], setOb st id (l.set o (pub v))) else none)
      else if (cellsV (ro v)).length = n ∧ o + n ≤ l.length ∧ (cellsV (ro v)).all isCell then some (.undef, [], setOb st id (wrCells l o (cellsV (ro v)))) else none
    | _ => none
  | .store n false, [.ptr id o, v] =>
    match st[id]? with
    | some (.cells l) => if (cellsV (got v)).length = n ∧ o + n ≤ l.length ∧ (cellsV (got v)).all isCell then some (.undef, if exc v then [(1, pub v)] else [], setOb st id (wrCells l o (cellsV (got v)))) else none
    | _ => none
  | .storeO, [.ptr id o, .sl xs n (.excl _)] =>
    match st[id]? with
    | some (.cells l) => if o < l.length then some (.undef, [(1, .undef)], setOb (st ++ [.cells xs]) id (l.set o (.slo st.length 0 n))) else none
    | _ => none
  | .storeO, [.ptr id o, v] =>
    match st[id]? with
    | some (.cells l) => if flg v then none else if (cellsV (ro v)).length = 1 ∧ o + 1 ≤ l.length ∧ (cellsV (ro v)).all isCell then some (.undef, [], setOb st id (wrCells l o (cellsV (ro v)))) else none
    | _ => none
  | c, vs => (pv st c vs).map fun r => (r, [], st)

/-- What is known of a program's functions: 'O f args st r st'': called so, with these objects, f hands back r, and these are the objects then. -/
abbrev Orc := FuncId → List SV → List Ob → SV → List Ob → Prop

/-- Behind it lie the numbers of functions that take their first argument over. -/
def XB : Nat := 1048576
/-- What is said of the operand that is taken over; nil has a sign of its own. -/
def headX : SV → Option SV
  | .sl xs n (.excl (es + 1)) => some (.sl xs n (.excl (es + 1)))
  | .nilS => some (.sl [] 0 (.excl 0))
  | _ => none
def stepV (O : Orc) (st : List Ob) (c : Opc) (vs : List SV) (r : SV) (wb : List (Nat × SV)) (st' : List Ob) : Prop :=
  match c, vs with
  | .call f, vs => O f (vs.map got) st r st' ∧ wb = pubs vs
  | .callp f, vs => ((∀ st2, O f (vs.map got) st2 r st2) ∧ wb = pubs vs) ∧ st' = st
  | .callv, v :: vs => (∃ f first cap, v = .fn f first cap ∧ O f (first ++ vs.map got ++ cap) st r st') ∧ wb = pubs (v :: vs)
  | .callx f, v :: vs => (∃ hv, headX v = some hv ∧ O (XB + f) (hv :: vs.map pub) st r st') ∧ wb = pubsFrom 1 vs ++ [(0, .undef)]
  | c, vs => ev st c vs = some (r, wb, st')

def wback (a : List Arg) (env : List SV) : List (Nat × SV) → List SV
  | [] => env
  | (j, v) :: r => wback a (match a[j]? with | some (.slot t) => env.set t v | _ => env) r

def S.app (s : S) (i : SI) (r : SV) (wb : List (Nat × SV)) (st' : List Ob) : S :=
  S.put { env := wback i.a s.env wb, st := st' } i.d r

def wanted (s : S) (i : SI) : Bool :=
  match i.g with
  | none => true
  | some (t, b) => match s.get t with | .bool x => x == b | _ => false

/-- Whether a guard can be told. -/
def known (s : S) (i : SI) : Bool :=
  match i.g with
  | none => true
  | some (t, _) => match s.get t with | .bool _ | .tup [] => true | _ => false

/-- One operation, and what is to hold behind it. -/
def stepK (O : Orc) (i : SI) (K : S → Prop) (s : S) : Prop :=
  known s i = true ∧
  if wanted s i then ∃ r wb st', stepV O s.st i.c (i.a.map (Arg.raw s)) r wb st' ∧ K (s.app i r wb st')
  else K (s.put i.d (.tup []))

/-- A row of operations, one behind the other. -/
def srun (O : Orc) : List SI → (S → Prop) → S → Prop
  | [], Q, s => Q s
  | i :: rest, Q, s => stepK O i (srun O rest Q) s

/-! A row whose order is drawn. -/

structure DI where
  i : Nat
  op : SI
  after : List Nat

def slots (a : List Arg) : List Nat := a.filterMap fun | .slot t => some t | .lit _ => none
/-- It may write its operands' slots. -/
def mayWb : Opc → Bool
  | .take | .give | .giveO | .giveP | .idxB _ | .idxO _ | .ext _ | .slcL _ _ _ _ | .app _ _ _ | .bsl _ _ _ _ | .bslO _ _ _ _ | .bld _ _ | .box | .store _ _ | .storeO | .call _ | .callp _ | .callv | .callx _ => true
  | _ => false
/-- 0: it neither sees nor changes objects; 1: it sees them; 2: it may change them. -/
def cls : Opc → Nat
  | .load _ _ | .lenM | .b2s | .app _ _ _ | .lkp _ _ _ _ => 1
  | .idxO _ | .store _ _ | .storeO | .bslO _ _ _ _ | .box | .alloc _ | .call _ | .callv | .callx _ | .giveO | .cpy _ | .mkM | .upd _ _ | .ment _ _ _ | .mest | .loadG => 2
  | _ => 0
def SI.writes (i : SI) : List Nat := i.d.toList ++ (if mayWb i.c then slots i.a else [])
def SI.reads (i : SI) : List Nat := slots i.a ++ (i.g.map (·.1)).toList
def apart (a b : SI) : Bool :=
  a.writes.all (fun t => !b.reads.contains t && !b.writes.contains t) && b.writes.all (fun t => !a.reads.contains t && !a.writes.contains t)
/-- The order of the two does not matter. -/
def commute (a b : SI) : Bool := apart a b && (cls a.c == 0 || cls b.c == 0 || (cls a.c == 1 && cls b.c == 1))
def readyD (l : List DI) (d : DI) : Bool := d.after.all fun e => l.all fun x => x.i != e
def rmD (l : List DI) (i : Nat) : List DI := l.filter fun x => x.i != i

/-- In each order. -/
def srunA (O : Orc) (Q : S → Prop) : Nat → List DI → S → Prop
  | _, [], s => Q s
  | 0, _ :: _, _ => False
  | n + 1, x :: l, s => ∀ d ∈ x :: l, readyD (x :: l) d = true → stepK O d.op (srunA O Q n (rmD (x :: l) d.i)) s

/-- Which must stand behind k. -/
def behind (l : List DI) (acc : List Nat) : List Nat := l.foldl (fun acc e => if e.after.any acc.contains then e.i :: acc else acc) acc
/-- It may be the first one. -/
def first (l : List DI) (d : DI) : Bool := readyD l d && l.all fun e => e.i == d.i || (e.after.contains d.i || commute d.op e.op || (behind l [d.i]).contains e.i)

inductive SC where
  | skip
  | reg (l : List SI)
  | seq (a b : SC)
  | cond (c : Arg) (a b : SC)
  | block (id : Nat) (a : SC)
  | loop (a : SC)
  | exit (id : Nat)
  | ret
  | both (a b : SC)
  | tt
  | scope (a : SC) (l : Nat) (rest : SC)
  | label (l : Nat)
  | goto (l : Nat)
  deriving Inhabited

inductive Ex where
  | normal | exit (id : Nat) | ret | goto (l : Nat)

mutual
/-- It names no object from k on. -/
def idOk (k : Nat) : SV → Bool
  | .ptr id _ | .mp id | .slo id _ _ => id < k
  | .sl xs _ _ | .agg xs | .tup xs | .elv xs _ => idOks k xs
  | .fn _ xs ys => idOks k xs && idOks k ys
  | _ => true
def idOks (k : Nat) : List SV → Bool
  | [] => true
  | x :: xs => idOk k x && idOks k xs
end
def obOk (k : Nat) : Ob → Bool
  | .cells l => idOks k l
  | .map l => l.all fun p => idOk k p.1 && idOk k p.2

/-- The last objects may be dropped, down to k of them, where nothing names them any more. -/
def Trim (k : Nat) (st st' : List Ob) (vs : List SV) : Prop :=
  st' = st ∨ (k ≤ st'.length ∧ st' = st.take st'.length ∧ idOks st'.length vs = true ∧ st'.all (obOk st'.length) = true)

/-- What is known may be forgotten. -/
structure Forget (k : Nat) (s s' : S) : Prop where
  env : s'.env.length = s.env.length ∧ ∀ t, s'.get t = s.get t ∨ s'.get t = .undef
  st : Trim k s.st s'.st s'.env

def swp (O : Orc) : SC → (Ex → S → Prop) → S → Prop
  | .skip, Q, s => Q .normal s
  | .reg l, Q, s => srun O l (Q .normal) s
  | .seq a b, Q, s => swp O a (fun e s' => match e with | .normal => swp O b Q s' | e => Q e s') s
  | .cond c a b, Q, s => ∃ t, c.raw s = .bool t ∧ if t then swp O a Q s else swp O b Q s
  | .block id a, Q, s => swp O a (fun e s' => match e with | .exit i => if i = id then Q .normal s' else Q (.exit i) s' | e => Q e s') s
  | .loop a, Q, s => ∃ (I : S → Prop) (μ : S → Nat), (∃ s0, Forget s.st.length s s0 ∧ I s0) ∧ ∀ s1, I s1 → swp O a (fun e s' => match e with | .normal => ∃ s'', Forget s.st.length s' s'' ∧ I s'' ∧ μ s'' < μ s1 | e => Q e s') s1
  | .exit id, Q, s => Q (.exit id) s
  | .ret, Q, s => Q .ret s
  | .both a b, Q, s => swp O a Q s ∧ swp O b Q s
  | .tt, _, _ => True
  | .scope a l rest, Q, s => swp O a (fun e s' => match e with
      | .goto l' => l' = l ∧ swp O rest (fun e s'' => match e with | .goto _ => False | e => Q e s'') s'
      | e => Q e s') s
  | .label _, Q, s => Q .normal s
  | .goto l, Q, s => Q (.goto l) s

/-- One more operation ahead. -/
def consD (d : SI) : SC → SC
  | .reg l => .reg (d :: l)
  | .seq (.reg l) t => .seq (.reg (d :: l)) t
  | t => .seq (.reg [d]) t

/-- All orders that matter. -/
def planD : Nat → List DI → SC
  | 0, _ => .reg []
  | _ + 1, [] => .reg []
  | n + 1, d :: l =>
    match (d :: l).find? (first (d :: l)) with
    | some e => consD e.op (planD n (rmD (d :: l) e.i))
    | none => ((d :: l).filter (readyD (d :: l))).foldr (fun e acc => .both (consD e.op (planD n (rmD (d :: l) e.i))) acc) .tt

/-- What stands behind a label. -/
def findL : SC → Nat → Option SC
  | .seq a b, l => match findL a l with
    | some r => some (.seq r b)
    | none => findL b l
  | .label l', l => if l' == l then some .skip else none
  | _, _ => none

/-! The turning. -/

def litOf : Value → Option SV
  | .bool b => some (.bool b)
  | .int k n => some (.int k n)
  | .string s => some (.str s.data.toList)
  | .slice none 0 0 => some .nilS
  | .pointer none => some .nilP
  | .nilFunc => some .nilF
  | .map none => some .nilM
  | _ => none

/-- Which temporaries are copies of variables. -/
abbrev Sg := List (Nat × Nat)

def argOf (σ : Sg) : Operand → Option Arg
  | .tmp t => some (.slot ((σ.lookup t).getD t))
  | .const v => (litOf v).map .lit
  | .func f => some (.lit (.fn f [] []))
  | .global _ => none

/-- Is the operand another name for a variable? -/
def isVar (σ : Sg) : Operand → Bool
  | .tmp t => (σ.lookup t).isSome
  | _ => true

section
variable (P : Program)
def isAgg (t : TypeId) : Bool := match P.underlying t with | some (.struct _) | some (.array _ _) => true | _ => false
def isSl (t : TypeId) : Bool := match P.underlying t with | some (.slice _) => true | _ => false
def isU8 (t : TypeId) : Bool := match P.underlying t with | some (.int .u8) => true | _ => false
def sz (t : TypeId) : Option Nat := match P.underlying t with | some _ => (P.info? t).map (·.size) | none => none
def zeroL (t : TypeId) : Option (List SV) := ((P.info? t).bind (·.zero)).bind fun z => z.cells.toList.mapM litOf
/-- A type's zero value. -/
def zeroV (t : TypeId) : Option SV := match P.info? t with
  | some i => match i.zero with
    | some (.agg _) => (zeroL P t).map .agg
    | some z => litOf z
    | none => none
  | none => none
def kindOf (t : TypeId) : Option KK := match P.underlying t with | some .bool => some .b | some (.int _) => some .i | some .string => some .s | _ => none
/-- The kinds of a plain struct's cells. -/
def structKs (t : TypeId) : Option (List KK) :=
  match P.underlying t with
  | some (.struct fs) => if fs.all (fun f => f.name ≠ "_" && sz P f.type == some 1) && (fs.toList.map (·.offset)) == List.range fs.size && !P.stoodInHeld t && !P.eqGuardType P.depth t then fs.toList.mapM fun f => kindOf P f.type else none
  | _ => none
/-- The kinds of a plain array's cells. -/
def arrKs (t : TypeId) : Option (List KK) :=
  match P.underlying t with
  | some (.array n e) => if sz P e == some 1 && !P.eqGuardType P.depth t then (kindOf P e).map (List.replicate n) else none
  | _ => none
/-- How a map's keys are held against each other. -/
def keyKs (t : TypeId) : Option (List KK × Bool) := match kindOf P t with | some k => some ([k], false) | none => (structKs P t).map fun ks => (ks, true)
def fieldOf (t : TypeId) (f : Nat) : Option Field := match P.underlying t with | some (.struct fs) => fs[f]? | _ => none
/-- Its cells are plain and can be held against each other, one by one. -/
def plainT (t : TypeId) : Bool := match P.underlying t with | some .bool | some (.int _) | some .string => true | _ => false
def plainAgg (t : TypeId) : Option Nat :=
  match P.underlying t with
  | some (.struct fs) => if fs.all (fun f => f.name ≠ "_" && plainT P f.type && sz P f.type == some 1) && (fs.toList.map (·.offset)) == List.range fs.size && !P.stoodInHeld t then some fs.size else none
  | some (.array n e) => if plainT P e && sz P e == some 1 then some n else none
  | _ => none

def cEq (neq : Bool) (t : TypeId) : Option Opc :=
  match P.underlying t with
  | some .bool => some (.eqB neq)
  | some (.int _) | some .string => some (.bin (if neq then .neq else .eql))
  | some (.slice _) => some (.eqN .s neq)
  | some (.pointer _) => some (.eqN .p neq)
  | some (.func _ _ _) => some (.eqN .f neq)
  | some (.map _ _) => some (.eqN .m neq)
  | some (.struct _) => (structKs P t).map fun ks => .eqA neq ks
  | some (.array _ _) => (arrKs P t).map fun ks => .eqA neq ks
  | _ => none

def cBuiltin (b : Builtin) (ts : Array TypeId) (ret : TypeId) : Option Opc :=
  match b, ts.toList with
  | .len, [t] => match P.underlying t with
    | some .string => some .lenS
    | some (.array n _) => some (.lenA n)
    | some (.slice _) => some .lenL
    | some (.map _ _) => some .lenM
    | _ => none
  | .min, [t, _] => match P.underlying t with | some (.int _) => some .min | _ => none
  | .max, [t, _] => match P.underlying t with | some (.int _) => some .max | _ => none
  | .append, [t, u] => match P.underlying t, P.underlying u with
    | some (.slice e), some (.slice _) | some (.slice e), some .string => do
      let i ← P.info? e
      let _ ← i.zero
      let z ← zeroL P e
      if i.size = z.length ∧ 0 < i.size then some (.app i.size i.bytes z) else none
    | _, _ => none
  | _, _ => none

/-- Functions that take their first argument over. -/
def xNames : List String := ["slices.Insert", "slices.Delete"]
def headApart : List Arg → Bool
  | .slot t :: r => !(slots r).contains t
  | _ => false
def litIn (res : List Nat) (d : Option Nat) : Bool := match d with | some d => res.contains (d + 8000000) | none => false
def cOp (res : List Nat) (σ : Sg) (o : Oper) : Option (Opc × List Arg) :=
  let A := argOf σ
  match o.op with
  | .move x => do some (.mv, [← A x])
  | .assign x => do some (if isVar σ x && !(o.dst.any res.contains) then .take else if o.dst.any (fun d => res.contains (d + 1000000)) then .giveO else if o.dst.any (fun d => res.contains (d + 3000000)) then .giveP else .give, [← A x])
  | .pick c a b => do some (.pick, [← A c, ← A a, ← A b])
  | .binOp op t x y _ => do
    let c ← match op with
      | .eql => cEq P false t
      | .neq => cEq P true t
      | op => some (.bin op)
    some (c, [← A x, ← A y])
  | .unOp op _ x => do some (.un op, [← A x])
  | .convert src dst x => do
    let c ← match P.underlying src, P.underlying dst with
      | some _, some (.int k) => some (.cvI k)
      | some .string, some .string => some .idS
      | some (.slice e), some .string => if isU8 P e then some .b2s else none
      | some .string, some (.slice e) => if isU8 P e then some .s2b else none
      | _, _ => none
    some (c, [← A x])
  | .nilCheck x => do some (.nilc, [← A x])
  | .fieldAddr t x f => do
    let fd ← fieldOf P t f
    let n ← sz P fd.type
    if n = 0 then none else some (.fld fd.offset, [← A x])
  | .field t x f => do
    let fd ← fieldOf P t f
    let n ← sz P fd.type
    some (.fldV fd.offset n (isAgg P fd.type), [← A x])
  | .index t x i => do
    match P.underlying t with
    | some .string => some (.idxS, [← A x, ← A i])
    | some (.array len e) => do some (.idxV (← sz P e) len (isAgg P e), [← A x, ← A i])
    | _ => none
  | .indexAddr t x i => do
    match P.underlying t with
    | some (.array len e) => do some (.idxP (← sz P e) len, [← A x, ← A i])
    | some (.slice e) => do some (.idxA (← sz P e), [← A x, ← A i])
    | _ => none
  | .load t a => do
    let n ← sz P t
    if o.dst.any (fun d => res.contains (d + 2000000)) && isSl P t && n == 1 then some (.loadG, [← A a]) else some (.load n (isAgg P t), [← A a])
  | .store t a v => do
    let n ← sz P t
    if res.contains 4000000 && isSl P t && n == 1 && !isVar σ v then some (.storeO, [← A a, ← A v]) else some (.store n (!isVar σ v), [← A a, ← A v])
  | .extract x i => do some (.ext i, [← A x])
  | .alloc t => do some (.alloc (← zeroL P t), [])
  | .box _ x => do some (.box, [← A x])
  | .slice t x lo hi mx => do
    let r ← (lo.toList ++ hi.toList ++ mx.toList).mapM A
    match P.underlying t with
    | some .string => if mx.isSome then none else some (.slcS lo.isSome hi.isSome, (← A x) :: r)
    | some (.slice e) => if mx.isSome && !hi.isSome then none else do some (.slcL (← sz P e) lo.isSome hi.isSome mx.isSome, (← A x) :: r)
    | some (.array len e) => if mx.isSome && !hi.isSome then none else do some (.slcP (← sz P e) len lo.isSome hi.isSome mx.isSome, (← A x) :: r)
    | _ => none
  | .makeSlice t l c => do
    match P.underlying t with
    | some (.slice e) => do
      let i ← P.info? e
      let z ← zeroL P e
      if i.size = z.length ∧ 0 < i.size then some (.mkS i.size i.bytes z, [← A l, ← A c]) else none
    | _ => none
  | .makeMap t r => match P.underlying t with
    | some (.map _ _) => do some (.mkM, ← r.toList.mapM A)
    | _ => none
  | .lookup t x k ok => match P.underlying t with
    | some (.map kt e) => do
      let (ks, ak) ← keyKs P kt
      let zv ← zeroV P e
      some (.lkp ks ak ok zv, [← A x, ← A k])
    | _ => none
  | .mapEntry t m k => match P.underlying t with
    | some (.map kt e) => do
      let (ks, ak) ← keyKs P kt
      let zv ← zeroV P e
      some (.ment ks ak zv, [← A m, ← A k])
    | _ => none
  | .entryStore t m i v => match P.underlying t with
    | some (.map _ _) => do some (.mest, [← A m, ← A i, ← A v])
    | _ => none
  | .mapUpdate t m k v => match P.underlying t with
    | some (.map kt _) => do
      let (ks, ak) ← keyKs P kt
      some (.upd ks ak, [← A m, ← A k, ← A v])
    | _ => none
  | .buildSlice t len parts => do
    match P.underlying t with
    | some (.slice e) => do
      let i ← P.info? e
      let z ← zeroL P e
      if i.size = z.length ∧ 0 < i.size ∧ len * i.size ≤ 16777216 then some ((if litIn res o.dst then Opc.bslO i.size len z (parts.toList.map (·.1)) else Opc.bsl i.size len z (parts.toList.map (·.1))), ← (parts.toList.map (·.2)).mapM A) else none
    | _ => none
  | .build t parts => do
    let z ← zeroL P t
    match P.underlying t with
    | some (.struct fs) => do
      let pl ← fs.toList.mapM fun f => (sz P f.type).map fun n => (f.offset, n)
      some (.bld z (← parts.toList.mapM fun p => pl[p.1]?), ← (parts.toList.map (·.2)).mapM A)
    | some (.array _ e) => do
      let n ← sz P e
      some (.bld z (parts.toList.map fun p => (p.1 * n, n)), ← (parts.toList.map (·.2)).mapM A)
    | _ => none
  | .makeFunc (.func f) first cap => do some (.mfn f first.size cap.size, ← (first.toList ++ cap.toList).mapM A)
  | .call c =>
    match c.callee with
    | .value (.func f) => match P.funcs[f]? with
      | some fn => if fn.body.isSome && fn.name != "runtime.NumGoroutine" then do
          let as ← c.args.toList.mapM A
          some (if xNames.contains fn.origin && (o.dst.isSome && headApart as) then .callx f else .call f, as) else none
      | none => none
    | .value x => do some (.callv, (← A x) :: (← c.args.toList.mapM A))
    | .builtin .copy => match c.argTypes.toList with
      | [t, u] => match P.underlying t, P.underlying u with
        | some (.slice e), some (.slice _) | some (.slice e), some .string => if c.args.size != 2 then none else do some (.cpy (← sz P e), ← c.args.toList.mapM A)
        | _, _ => none
      | _ => none
    | .builtin b => if o.dst.isNone || c.args.size != c.argTypes.size then none else do some (← cBuiltin P b c.argTypes o.type, ← c.args.toList.mapM A)
    | .invoke _ _ => none
  | _ => none

def drop (σ : Sg) (d : Nat) : Sg := σ.filter fun p => p.1 != d && p.2 != d

/-- Behind an operation: which temporaries are copies now. -/
def nextSg (nt : Nat) (σ : Sg) (o : Oper) : Sg :=
  match o.dst with
  | none => σ
  | some d =>
    match o.op, o.guard with
    | .move (.tmp x), none => if d = (σ.lookup x).getD x ∨ nt ≤ d then drop σ d else (d, (σ.lookup x).getD x) :: drop σ d
    | _, _ => drop σ d

def isCall : Opc → Bool
  | .call _ | .callp _ | .callv | .callx _ => true
  | _ => false
def opCall : Op → Bool
  | .call _ => true
  | _ => false

def guardOf (ops : Array Oper) (o : Oper) : Option (Option (Nat × Bool)) :=
  match o.guard with
  | none => some none
  | some (j, b) => ((ops[j]?).bind (·.dst)).map fun t => some (t, b)

/-- In a row whose order is fixed, a copy under a guard shares what it copies. -/
def cOpR (res : List Nat) (σ : Sg) (o : Oper) : Option (Opc × List Arg) :=
  match o.op, o.guard with
  | .move x, some _ => (argOf σ x).map fun a => (.take, [a])
  | .indexAddr t x i, _ => match P.underlying t with
    | some (.slice e) => do
      let es ← sz P e
      let ax ← argOf σ x
      some (if (match ax with | .slot v => res.contains (v + 5000000) | _ => false) then .idxO es else .idxB es, [ax, ← argOf σ i])
    | _ => cOp P res σ o
  | _, _ => cOp P res σ o

def cRow (res : List Nat) (nt : Nat) (ops : Array Oper) : Sg → List Oper → Option (List SI)
  | _, [] => some []
  | σ, o :: rest => do
    let (c, a) ← cOpR P res σ o
    let g ← guardOf ops o
    if a.any (fun | .slot t => o.dst == some t | _ => false) || (isCall c && !opCall o.op) then none else
    let r ← cRow res nt ops (nextSg nt σ o) rest
    some ({ d := o.dst, c, a, g } :: r)

/-! Rows whose order is drawn: what is a copy of what hangs on what was done ahead. -/

def edgesOf (o : Oper) : List Nat := (o.after.toList.filter (Region.binds .any)).map (·.on)
def writersOf (ops : Array Oper) (t : Nat) : List Nat := (List.range ops.size).filter fun j => ((ops[j]?).bind (·.dst)) == some t
def goodMv (nt : Nat) (ops : Array Oper) (k : Nat) : Option (Nat × Nat) :=
  match ops[k]? with
  | some o => match o.op, o.guard, o.dst with
    | .move (.tmp x), none, some d => if d ≠ x ∧ d < nt ∧ writersOf ops d = [k] ∧ (writersOf ops x).all (edgesOf o).contains then some (d, x) else none
    | _, _, _ => none
  | none => none
def near (ops : Array Oper) : Nat → Nat → List Nat
  | 0, _ => []
  | n + 1, j => match ops[j]? with
    | some o => (edgesOf o).flatMap fun e => e :: near ops n e
    | none => []
def sgD (nt : Nat) (ops : Array Oper) (j : Nat) : Sg := (near ops 3 j).filterMap (goodMv nt ops)

/-- Of plain values to plain values: it can neither see nor change objects. -/
def plainSig (f : FuncId) : Bool := match P.funcs[f]? with
  | some fn => fn.params.all (plainT P) && fn.resultTypes.all (fun t => plainT P t || (match P.underlying t with | some (.slice e) => plainT P e | _ => false))
  | none => false
def toP : Opc → Opc
  | .call f => if plainSig P f then .callp f else .call f
  | c => c

def cOneD (res : List Nat) (nt : Nat) (ops : Array Oper) (j : Nat) : Option DI := do
  let o ← ops[j]?
  let (c', _) ← cOp P res (sgD nt ops j) o
  let (c, a) ← cOp P res (if mayWb c' then [] else sgD nt ops j) o
  let g ← guardOf ops o
  if a.any (fun | .slot t => o.dst == some t | _ => false) || (isCall c && !opCall o.op) || !((edgesOf o).all (· < j)) then none else
  some { i := j, op := { d := o.dst, c := toP P c, a, g }, after := edgesOf o }

/-- The one label that a scope's jumps go to. -/
def gotoOf : Code → Option Nat
  | .goto l => some l
  | .seq a b | .cond _ a b => match gotoOf a with | some l => some l | none => gotoOf b
  | .block _ a | .loop a => gotoOf a
  | _ => none

def cCode (res : List Nat) (nt : Nat) : Code → Option SC
  | .skip => some .skip
  | .region _ ops false => (cRow P res nt ops [] ops.toList).map .reg
  | .region _ ops true => if P.follows .mixedOrders then ((List.range ops.size).mapM (cOneD P res nt ops)).map (planD ops.size) else none
  | .seq a b => do some (.seq (← cCode res nt a) (← cCode res nt b))
  | .cond c a b => do some (.cond (← argOf [] c) (← cCode res nt a) (← cCode res nt b))
  | .block id a => do some (.block id (← cCode res nt a))
  | .loop a => do some (.loop (← cCode res nt a))
  | .exit id => some (.exit id)
  | .ret => some .ret
  | .scope a => do
    let l ← gotoOf a
    let sa ← cCode res nt a
    some (.scope sa l (← findL sa l))
  | .label l => some (.label l)
  | .goto l => some (.goto l)
  | _ => none

/-- A function's result: what a slot holds, or a variable's cells. -/
inductive RV where
  | tmp (t : Nat)
  | cell (p n : Nat) (agg : Bool)
  deriving DecidableEq

/-- A function in the shadow's form. -/
structure SF where
  body : SC
  nt : Nat
  res : List RV

def cRes : List ResultVar → Option (List RV)
  | [] => some []
  | .tmp t :: r => (cRes r).map (.tmp t :: ·)
  | .cell p t :: r => do
    let n ← sz P t
    let l ← cRes r
    some (.cell p n (isAgg P t) :: l)

def tmpsOf : List RV → List Nat
  | [] => []
  | .tmp t :: r => t :: tmpsOf r
  | .cell _ _ _ :: r => tmpsOf r

/-! Which variables hold slices that are stored into. -/
def resO (mvs : List (Nat × Nat)) (x : Nat) : Nat := (mvs.lookup x).getD x
def objsRow (dr : Bool) : List Oper → List (Nat × Nat) → List (Nat × Nat) → List Nat
  | [], _, _ => []
  | o :: r, mvs, adr =>
    match o.op, o.dst with
    | .move (.tmp x), some d => objsRow dr r ((d, resO mvs x) :: mvs) adr
    | .indexAddr t (.tmp x) _, some d => match P.underlying t with
      | some (.slice _) => objsRow dr r mvs ((d, resO mvs x) :: adr)
      | _ => match adr.lookup x with | some b => objsRow dr r mvs ((d, b) :: adr) | none => objsRow dr r mvs adr
    | .fieldAddr _ (.tmp x) _, some d => match adr.lookup x with | some b => objsRow dr r mvs ((d, b) :: adr) | none => objsRow dr r mvs adr
    | .store _ (.tmp a) _, _ => match adr.lookup a with | some b => b :: objsRow dr r mvs adr | none => objsRow dr r mvs adr
    | .call c, _ => match c.callee, c.args.toList with
      | .builtin .copy, .tmp x :: _ => resO mvs x :: objsRow dr r mvs adr
      | _, _ => objsRow dr r mvs adr
    | .buildSlice _ _ parts, _ => (parts.toList.filterMap fun y => match y.2 with | .tmp a => adr.lookup a | _ => none) ++ objsRow dr r mvs adr
    | _, _ => objsRow dr r mvs adr
def objsOf : Code → List Nat
  | .region _ ops dr => objsRow P dr ops.toList [] []
  | .seq a b | .cond _ a b => objsOf a ++ objsOf b
  | .block _ a | .loop a | .scope a => objsOf a
  | _ => []

/-- Which variables are taken over by a call. -/
def takenRow : List Oper → List (Nat × Nat) → List Nat
  | [], _ => []
  | o :: r, mvs =>
    match o.op, o.dst with
    | .move (.tmp x), some d => takenRow r ((d, resO mvs x) :: mvs)
    | .call c, _ => (match c.callee, c.args.toList with
      | .value (.func f), .tmp x :: _ => (match P.funcs[f]? with | some fn => if xNames.contains fn.origin then [resO mvs x] else [] | none => [])
      | _, _ => []) ++ takenRow r mvs
    | _, _ => takenRow r mvs
def takenOf : Code → List Nat
  | .region _ ops _ => takenRow P ops.toList []
  | .seq a b | .cond _ a b => takenOf a ++ takenOf b
  | .block _ a | .loop a | .scope a => takenOf a
  | _ => []

/-- Which variables are read under a guard where the order is drawn. -/
def pubsRow : List Oper → List (Nat × Nat) → List Nat
  | [], _ => []
  | o :: r, mvs =>
    match o.op, o.dst with
    | .move (.tmp x), some d => (if (o.guard.isSome || r.any (fun z => z.dst == some x)) && isSl P o.type then [resO mvs x] else []) ++ pubsRow r ((d, resO mvs x) :: mvs)
    | .indexAddr t (.tmp x) _, _ => (if isSl P t then [resO mvs x] else []) ++ pubsRow r mvs
    | _, _ => pubsRow r mvs
def pubsOf : Code → List Nat
  | .region _ ops true => pubsRow P ops.toList []
  | .seq a b | .cond _ a b => pubsOf a ++ pubsOf b
  | .block _ a | .loop a | .scope a => pubsOf a
  | _ => []

/-- Which temporaries are appended to. -/
def appsRow (l : List Oper) : List Nat := l.filterMap fun o => match o.op with
  | .call c => match c.callee, c.args.toList with
    | .builtin .append, .tmp x :: _ => some x
    | _, _ => none
  | _ => none
def appsOf : Code → List Nat
  | .region _ ops _ => appsRow ops.toList
  | .seq a b | .cond _ a b => appsOf a ++ appsOf b
  | .block _ a | .loop a | .scope a => appsOf a
  | _ => []

/-- Which temporaries are loaded out of memory. -/
def loadsRow (l : List Oper) : List Nat := l.filterMap fun o => match o.op with
  | .load _ _ => o.dst
  | _ => none
def loadsOf : Code → List Nat
  | .region _ ops _ => loadsRow ops.toList
  | .seq a b | .cond _ a b => loadsOf a ++ loadsOf b
  | .block _ a | .loop a | .scope a => loadsOf a
  | _ => []
/-- A slice that was loaded is stored into. -/
def ldObj (b : Code) : List Nat := if (objsOf P b).any (loadsOf b).contains then [4000000] else []

/-- Slice literals that are parts of a literal that is stored. -/
def litsRow (l : List Oper) : List Nat :=
  let builds := l.filterMap fun o => match o.op, o.dst with
    | .build _ parts, some d => some (d, parts.toList.filterMap fun y => match y.2 with | .tmp a => some a | _ => none)
    | _, _ => none
  let stored := l.filterMap fun o => match o.op with
    | .store _ _ (.tmp x) => some x
    | _ => none
  let lits := l.filterMap fun o => match o.op with
    | .buildSlice _ _ _ => o.dst
    | _ => none
  lits.filter fun d => builds.any fun y => stored.contains y.1 && y.2.contains d
def litsOf : Code → List Nat
  | .region _ ops _ => litsRow ops.toList
  | .seq a b | .cond _ a b => litsOf a ++ litsOf b
  | .block _ a | .loop a | .scope a => litsOf a
  | _ => []

def cFunc (f : FuncId) : Option SF := do
  let fn ← P.funcs[f]?
  let b ← fn.body
  let res ← cRes P fn.results.toList
  if (tmpsOf res).Nodup then some { body := ← cCode P (tmpsOf res ++ ((objsOf P b).filter fun t => !(takenOf P b).contains t).map (· + 1000000) ++ (takenOf P b).map (· + 5000000) ++ (appsOf b).map (· + 2000000) ++ (pubsOf P b).map (· + 3000000) ++ ldObj P b ++ (if appsOf b == [] then (litsOf b).map (· + 8000000) else [])) fn.ntmps b, nt := fn.ntmps, res } else none
end

end Go.Sh
