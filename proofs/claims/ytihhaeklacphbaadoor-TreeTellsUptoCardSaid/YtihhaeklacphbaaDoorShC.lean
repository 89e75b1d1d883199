/-
  The shadow machine, part C: its operations, and how the model's operations are turned into them.
-/
import Derived.Test.YtihhaeklacphbaaDoorShB
set_option linter.unusedSimpArgs false
set_option linter.unusedVariables false
namespace Go.Sh

/-- What may be nil: a slice, a pointer, a function, a map. -/
inductive NK where
  | s | p | f | m

/-- The kind of a plain cell. -/
inductive KK where
  | b | i | s
  deriving DecidableEq

inductive Opc where
  | mv | take | give          -- a copy; an assignment out of a variable; one out of a temporary
  | giveO                     -- as give; a slice that nobody else has becomes an object's
  | giveP                     -- as give; a slice that nobody else has is published at once
  | cpy (es : Nat)
  | slcP (es len : Nat) (lo hi mx : Bool)
  | mkM
  | lkp (ks : List KK) (aggK ok : Bool) (zero : SV)
  | upd (ks : List KK) (aggK : Bool)
  | ment (ks : List KK) (aggK : Bool) (zero : SV)
  | mest
  | pick
  | bin (op : BinOp)
  | eqB (neq : Bool)          -- bools
  | eqN (k : NK) (neq : Bool)          -- against nil
  | eqA (neq : Bool) (ks : List KK) -- structs and arrays of plain cells
  | un (op : UnOp)
  | cvI (k : IntKind)
  | b2s
  | s2b
  | idS
  | nilc
  | fld (off : Nat)
  | fldV (off n : Nat) (agg : Bool)
  | idxS
  | idxV (es len : Nat) (agg : Bool)
  | idxA (es : Nat)
  | idxP (es len : Nat)
  | idxB (es : Nat)           -- as idxA; an exclusive slice is published
  | idxO (es : Nat)           -- as idxA; an exclusive slice becomes an object
  | load (n : Nat) (agg : Bool)
  | loadG                     -- a slice that is going to be appended to: out of an object's cell
  | store (n : Nat) (give : Bool)
  | storeO                    -- a slice into an object's cell: one that nobody else has becomes an object's
  | bslO (es len : Nat) (zero : List SV) (at_ : List Nat)   -- a slice literal that is an object from the first
  | lenS | lenL | lenA (n : Nat) | lenM
  | min | max
  | slcS (lo hi : Bool)
  | slcL (es : Nat) (lo hi mx : Bool)
  | mkS (es bytes : Nat) (zero : List SV)
  | bsl (es len : Nat) (zero : List SV) (at_ : List Nat)
  | bld (zero : List SV) (at_ : List (Nat × Nat))
  | box
  | alloc (zero : List SV)
  | ext (i : Nat)
  | app (es bytes : Nat) (zero : List SV)
  | mfn (f : FuncId) (first cap : Nat)
  | call (f : FuncId)
  | callp (f : FuncId)          -- a call that neither sees nor changes objects
  | callv
  | callx (f : FuncId)          -- a call that takes its first operand over: a slice that nobody else has
  deriving Inhabited

inductive Arg where
  | slot (t : Nat) | lit (v : SV)

structure SI where
  d : Option Nat
  c : Opc
  a : List Arg
  g : Option (Nat × Bool)

def Arg.raw (s : S) : Arg → SV
  | .slot t => s.get t
  | .lit v => v

/-! Values. -/

def bytesOf (l : List SV) : Option (List UInt8) := l.mapM fun | .int .u8 n => some (UInt8.ofNat n.toNat) | _ => none

def binI (op : BinOp) (k : IntKind) (a b : Int) : Option SV :=
  match op with
  | .add => some (.int k (k.wrap (a + b)))
  | .sub => some (.int k (k.wrap (a - b)))
  | .mul => some (.int k (k.wrap (a * b)))
  | .quo => if b = 0 then none else some (.int k (k.wrap (a.tdiv b)))
  | .rem => if b = 0 then none else some (.int k (a.tmod b))
  | .and => some (.int k (k.wrap (BitVec.ofInt k.bits a &&& BitVec.ofInt k.bits b).toNat))
  | .or => some (.int k (k.wrap (BitVec.ofInt k.bits a ||| BitVec.ofInt k.bits b).toNat))
  | .xor => some (.int k (k.wrap (BitVec.ofInt k.bits a ^^^ BitVec.ofInt k.bits b).toNat))
  | .andNot => some (.int k (k.wrap (BitVec.ofInt k.bits a &&& ~~~ BitVec.ofInt k.bits b).toNat))
  | .eql => some (.bool (a == b))
  | .neq => some (.bool (a != b))
  | .lss => some (.bool (a < b))
  | .leq => some (.bool (a ≤ b))
  | .gtr => some (.bool (a > b))
  | .geq => some (.bool (a ≥ b))
  | _ => none

def binS (op : BinOp) (x y : List UInt8) : Option SV :=
  match op with
  | .add => if x.length + y.length ≤ 1073741824 then some (.str (x ++ y)) else none
  | .eql => some (.bool (x == y))
  | .neq => some (.bool (!(x == y)))
  | .lss => some (.bool (Op.bytesLess x y))
  | .leq => some (.bool (Op.bytesLess x y || x == y))
  | .gtr => some (.bool (!(Op.bytesLess x y || x == y)))
  | .geq => some (.bool (!(Op.bytesLess x y)))
  | _ => none

def binV (op : BinOp) : SV → SV → Option SV
  | .int k a, .int k' b =>
    match op with
    | .shl => if b < 0 then none else some (.int k (k.wrap (a * 2 ^ (Min.min b.toNat k.bits))))
    | .shr => if b < 0 then none else some (.int k (a.fdiv (2 ^ (Min.min b.toNat k.bits))))
    | op => if k = k' then binI op k a b else none
  | .str x, .str y => binS op x y
  | _, _ => none

def eqK : KK → SV → SV → Option Bool
  | .i, .int k a, .int k' b => if k = k' then some (a == b) else none
  | .b, .bool a, .bool b => some (a == b)
  | .s, .str a, .str b => some (a == b)
  | _, _, _ => none

def eqKs : List KK → List SV → List SV → Option Bool
  | [], [], [] => some true
  | k :: ks, x :: xs, y :: ys => (eqK k x y).bind fun b => if b then eqKs ks xs ys else some false
  | _, _, _ => none

/-- Two keys of a map: alike? -/
def keyEq (ks : List KK) (aggK : Bool) (x y : SV) : Option Bool :=
  if aggK then (match x, y with | .agg xs, .agg ys => eqKs ks xs ys | _, _ => none)
  else (match ks with | [k] => eqK k x y | _ => none)

/-- Which entry a key has. -/
def findI (ks : List KK) (aggK : Bool) (k : SV) : List (SV × SV) → Option (Option Nat)
  | [] => some none
  | p :: r => (keyEq ks aggK k p.1).bind fun b => if b then some (some 0) else (findI ks aggK k r).map fun o => o.map (· + 1)

/-- It has a key's shape. -/
def keyOk (ks : List KK) (aggK : Bool) (k : SV) : Bool := if aggK then (match k with | .agg xs => xs.length == ks.length | _ => false) else true

def lkpV (ks : List KK) (aggK ok : Bool) (z k : SV) (l : List (SV × SV)) : Option SV :=
  if keyOk ks aggK k then (findI ks aggK k l).map fun r =>
    let v := (r.bind fun i => l[i]?).map (·.2)
    if ok then .tup [v.getD z, .bool v.isSome] else v.getD z
  else none

def updV (ks : List KK) (aggK : Bool) (k v : SV) (l : List (SV × SV)) : Option (List (SV × SV)) :=
  if keyOk ks aggK k then (findI ks aggK k l).map fun r => match r with | some i => l.set i (k, v) | none => l ++ [(k, v)] else none

/-- An entry is looked for, and made where there is none: its value, its place, the entries. -/
def mentV (ks : List KK) (aggK : Bool) (z k : SV) (l : List (SV × SV)) : Option (SV × Nat × List (SV × SV)) :=
  if keyOk ks aggK k then (findI ks aggK k l).map fun r => match r with
    | some i => (((l[i]?).map (·.2)).getD z, i, l.set i (k, ((l[i]?).map (·.2)).getD z))
    | none => (z, l.length, l ++ [(k, z)])
  else none

/-- A map's entries. -/
def mapEs (st : List Ob) : SV → Option (List (SV × SV))
  | .nilM => some []
  | .mp id => match st[id]? with | some (.map l) => some l | _ => none
  | _ => none

def isNil : NK → SV → Option Bool
  | .s, .nilS => some true
  | .s, .sl _ _ _ => some false
  | .s, .slo _ _ _ => some false
  | .p, .nilP => some true
  | .p, .ptr _ _ => some false
  | .p, .elv _ _ => some false
  | .f, .nilF => some true
  | .f, .fn _ _ _ => some false
  | .m, .nilM => some true
  | .m, .mp _ => some false
  | _, _ => none

/-- A part of a struct's or an array's cells. -/
def partV (n : Nat) (agg : Bool) (xs : List SV) (off : Nat) : Option SV :=
  if agg then (if off + n ≤ xs.length then some (.agg ((xs.drop off).take n)) else none) else xs[off]?

def cellsV : SV → List SV
  | .agg xs => xs
  | v => [v]

def rdCells (st : List Ob) (id off n : Nat) : Option (List SV) :=
  match st[id]? with
  | some (.cells l) => if off + n ≤ l.length then some ((l.drop off).take n) else none
  | _ => none

/-- A cell's value can be kept in memory. -/
def isCell : SV → Bool
  | .undef | .agg _ | .tup _ => false
  | _ => true

def wrCells (l : List SV) (off : Nat) : List SV → List SV
  | [] => l
  | v :: r => wrCells (l.set off v) (off + 1) r

/-- What is read, and may be read again by others: exclusive no more. -/
def pub : SV → SV
  | .sl xs n (.excl es) => .sl xs n (.own es)
  | v => v
/-- What the reader gets. -/
def got : SV → SV
  | .sl xs n (.excl _) => .sl xs n .ro
  | v => ro v

def fillV : List SV → List (Nat × Nat × SV) → Option (List SV)
  | cells, [] => some cells
  | cells, (off, size, v) :: r =>
    if (cellsV v).length = size ∧ off + size ≤ cells.length ∧ (cellsV v).all isCell then fillV (wrCells cells off (cellsV v)) r else none

def rep (n : Nat) (zero : List SV) : List SV := (List.replicate n zero).flatten

def slB (n : Nat) (lo hi : Option Int) : Option (Nat × Nat) :=
  let h := hi.getD n
  let l := lo.getD 0
  if 0 ≤ l ∧ l ≤ h ∧ h ≤ n then some (l.toNat, h.toNat) else none

def intOfV : SV → Option Int | .int _ n => some n | _ => none

/-- What an operation yields, out of its operands' values: without any change. -/
def pv (st : List Ob) : Opc → List SV → Option SV
  | .mv, [v] => some (ro v)
  | .pick, [.bool b, x, y] => some (ro (if b then x else y))
  | .bin op, [x, y] => binV op x y
  | .eqB neq, [.bool a, .bool b] => some (.bool (if neq then !(a == b) else a == b))
  | .eqN k neq, [x, y] => match isNil k x, isNil k y with
    | some a, some b => if a || b then some (.bool (if neq then !(a && b) else a && b)) else none
    | _, _ => none
  | .eqA neq ks, [.agg xs, .agg ys] => (eqKs ks xs ys).map fun b => .bool (if neq then !b else b)
  | .lkp ks ak ok z, [m, k] => (mapEs st m).bind fun l => lkpV ks ak ok z k l
  | .un .not, [.bool b] => some (.bool !b)
  | .un .neg, [.int k n] => some (.int k (k.wrap (0 - n)))
  | .cvI k, [.int _ n] => some (.int k (k.wrap n))
  | .idS, [.str s] => some (.str s)
  | .b2s, [.nilS] => some (.str [])
  | .b2s, [.sl xs n _] => if n = xs.length then (bytesOf xs).map .str else none
  | .b2s, [.slo id off n] => (rdCells st id off n).bind fun l => (bytesOf l).map .str
  | .nilc, [.ptr id off] => some (.ptr id off)
  | .nilc, [.fn f xs ys] => some (.fn f xs ys)
  | .fld off, [.ptr id o] => some (.ptr id (o + off))
  | .fld off, [.elv xs p] => some (.elv xs (p + off))
  | .idxA es, [.sl xs n f, .int _ i] => if 0 ≤ i ∧ i < n ∧ xs.length = n * es then (match f with | .excl _ => none | _ => some (.elv xs (i.toNat * es))) else none
  | .idxA es, [.slo id off n, .int _ i] => if 0 ≤ i ∧ i < n then some (.ptr id (off + i.toNat * es)) else none
  | .fldV off n agg, [.agg xs] => (partV n agg xs off).map ro
  | .idxS, [.str s, .int _ i] => if 0 ≤ i then (s[i.toNat]?).map fun b => .int .u8 b.toNat else none
  | .idxV es len agg, [.agg xs, .int _ i] => if 0 ≤ i ∧ i < len then (partV es agg xs (i.toNat * es)).map ro else none
  | .idxP es len, [.ptr id o, .int _ i] => if 0 ≤ i ∧ i < len then some (.ptr id (o + i.toNat * es)) else none
  | .load n agg, [.elv xs p] => (partV n agg xs p).map ro
  | .load n agg, [.ptr id o] => (rdCells st id o n).bind fun l => if agg then some (ro (.agg l)) else (l[0]?).map ro
  | .lenS, [.str s] => some (.int .i64 s.length)
  | .lenL, [.sl _ n _] => some (.int .i64 n)
  | .lenL, [.nilS] => some (.int .i64 0)
  | .lenL, [.slo _ _ n] => some (.int .i64 n)
  | .lenA n, [_] => some (.int .i64 n)
  | .lenM, [.mp id] => match st[id]? with | some (.map l) => some (.int .i64 l.length) | _ => none
  | .lenM, [.nilM] => some (.int .i64 0)
  | .min, [.int k x, .int _ y] => some (.int k (if y < x then y else x))
  | .max, [.int k x, .int _ y] => some (.int k (if y > x then y else x))
  | .slcS lo hi, .str s :: r =>
    let l := if lo then (r[0]?).bind intOfV else some 0
    let h := if hi then (r[if lo then 1 else 0]?).bind intOfV else some (s.length : Int)
    l.bind fun l => h.bind fun h => if 0 ≤ l ∧ l ≤ h ∧ h ≤ s.length then some (.str ((s.take h.toNat).drop l.toNat)) else none
  | .ext i, [.tup xs] => (xs[i]?).map ro
  | .mfn f a b, vs => if vs.length = a + b then some (.fn f ((vs.take a).map ro) ((vs.drop a).map ro)) else none
  | _, _ => none

end Go.Sh
