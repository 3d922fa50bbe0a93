/- An interpreter of Go code over plain data, and the proof that the model answers what it answers. Part 1. -/
import Derived.WalkKit
set_option linter.unusedSimpArgs false
set_option linter.unusedVariables false
namespace Go.Aiv

/-- A cell of immutable data. -/
inductive D where
  | int (k : IntKind) (n : Int)
  | bool (b : Bool)
  | str (s : List UInt8)
  | vec (es : List (List D))
  | np
  | nm
  | nf

abbrev Row := List (List D)

/-- Data of one cell, or of a struct. -/
inductive DV where
  | c (x : D)
  | agg (ds : List D)

abbrev KVs := List (DV × DV)

/-- The name of an abstract object: of this call's own ('l'), or handed in ('o'). -/
inductive Id where
  | l (i : Nat)
  | o (i : Nat)

instance : DecidableEq Id := fun a b =>
  match a, b with
  | .l i, .l j => if h : i = j then isTrue (by rw [h]) else isFalse (by intro e; cases e; exact h rfl)
  | .o i, .o j => if h : i = j then isTrue (by rw [h]) else isFalse (by intro e; cases e; exact h rfl)
  | .l _, .o _ => isFalse (by intro e; cases e)
  | .o _, .l _ => isFalse (by intro e; cases e)

/-- What one cell holds. -/
inductive C where
  | any
  | d (x : D)
  | nils
  | sl (id : Id) (off len : Nat)
  | ptr (id : Id) (off : Nat)
  | map (id : Id)
  | itr (id : Id)
  | fn (f : Nat) (caps : List C)

inductive V where
  | c (x : C)
  | agg (cs : List C)

inductive AV where
  | any
  | un
  | v (x : V)
  | sptr (e : List D) (off : Nat)
  | rptr (id : Id) (i off : Nat)
  | tup (vs : List V)

inductive O where
  | box (cs : List C)
  | row (sz : Nat) (es : Row)
  | fro (sz : Nat) (es : Row)
  | map (kvs : KVs)
  | lock (kvs : KVs)
  | iter (m : Id) (left : KVs) (cur : Option (DV × DV))
  | dead

/-- The kinds of a cell that can be compared. -/
inductive Kd where
  | int (k : IntKind)
  | str
  | bool

inductive Opd where
  | tmp (t : Nat)
  | con (x : V)
  | fn (f : Nat)

inductive SOp where
  | mov (x : Opd)
  | pick (c a b : Opd)
  | alloc (zero : List C)
  | box (n : Nat) (x : Opd)
  | build (zero : List C) (parts : List (Nat × Nat × Opd))
  | bslice (own : Bool) (sz : Nat) (zero : List D) (len : Nat) (parts : List (Nat × Opd))
  | load (agg : Bool) (n : Nat) (x : Opd)
  | store (n : Nat) (a x : Opd)
  | nilchk (x : Opd)
  | bin (op : BinOp) (x y : Opd)
  | beq (neg : Bool) (x y : Opd)
  | eqa (neg : Bool) (ks : List Kd) (x y : Opd)
  | un (op : UnOp) (x : Opd)
  | cint (k : IntKind) (x : Opd)
  | cstr (x : Opd)
  | b2s (x : Opd)
  | s2b (x : Opd)
  | i2s (x : Opd)
  | mkfn (f : Nat) (caps : List Opd)
  | mkmap (r : Option Opd)
  | mkslice (sz bytes : Nat) (zero : List D) (len cap : Opd)
  | sslice (x : Opd) (lo hi : Option Opd)
  | vslice (sz : Nat) (x : Opd) (lo hi mx : Option Opd)
  | faddr (off : Nat) (x : Opd)
  | iaddr (sz : Nat) (x i : Opd)
  | sidx (x i : Opd)
  | field (agg : Bool) (off n : Nat) (x : Opd)
  | look (kk : Kd) (zero : V) (m k : Opd) (ok : Bool)
  | mupd (kk : Kd) (m k x : Opd)
  | mdel (kk : Kd) (m k : Opd)
  | call (lend : Bool) (f : Nat) (args : List Opd)
  | callv (fv : Opd) (args : List Opd)
  | slen (x : Opd)
  | vlen (x : Opd)
  | mlen (x : Opd)
  | append (sz bytes : Nat) (s x : Opd)
  | copy (sz : Nat) (a x : Opd)
  | max (xs : List Opd)
  | min (xs : List Opd)
  | extract (x : Opd) (i : Nat)
  | range (x : Opd)
  | next (x : Opd)
  | entry (x : Opd)
  | isnil (neg : Bool) (x : Opd)

structure SOper where
  dst : Option Nat
  guard : Option (Nat × Bool)
  op : SOp

/-- Kinds of steps in a region whose steps may come in many orders: a value alone; one that looks at no object; new objects alone; any. -/
inductive DK where
  | quiet
  | pure
  | mild
  | heavy

/-- The orders of a region whose steps may come in many: a step, or a choice. -/
inductive DTree where
  | done
  | step (k : DK) (o : SOper) (t : DTree)
  | fork (a b : DTree)

inductive SCode where
  | skip
  | reg (ops : List SOper) (keep : List Nat)
  | draw (t : DTree) (keep : List Nat)
  | seq (a b : SCode)
  | cond (c : Opd) (a b : SCode)
  | block (id : Nat) (b : SCode)
  | loop (live : List Nat) (grow : List (Nat × Option Nat × Nat)) (b : SCode)
  | exit (id : Nat)
  | ret

inductive SRes where
  | tmp (t : Nat)
  | cell (t : Nat) (agg : Bool) (n : Nat)

structure SFunc where
  nparams : Nat
  results : List SRes
  asData : Bool
  body : SCode

/-- The outcomes: a result, no answer, or a question with n answers. -/
inductive M (α : Type) where
  | ret (a : α)
  | fail
  | ask (n : Nat) (k : Nat → M α)

namespace M
def bind {α β : Type} : M α → (α → M β) → M β
  | .ret a, f => f a
  | .fail, _ => .fail
  | .ask n k, f => .ask n fun i => (k i).bind f
def ofO {α : Type} : Option α → M α
  | some a => .ret a
  | none => .fail
/-- Every answer leads to a result, and each of them is good. -/
def All {α : Type} (Q : α → Prop) : M α → Prop
  | .ret a => Q a
  | .fail => False
  | .ask n k => 0 < n ∧ ∀ i, i < n → (k i).All Q
end M

structure St where
  env : List (Nat × AV)
  loc : List O
  out : List O

def get (t : Nat) : List (Nat × AV) → AV
  | [] => .any
  | (i, v) :: r => if i = t then v else get t r

def St.put (s : St) (dst : Option Nat) (v : AV) : St :=
  match dst with
  | some t => { s with env := (t, v) :: s.env }
  | none => s

def St.opd (s : St) : Opd → AV
  | .tmp t => get t s.env
  | .con x => .v x
  | .fn f => .v (.c (.fn f []))

def obj? (loc out : List O) : Id → Option O
  | .l i => loc[i]?
  | .o i => out[i]?

def St.obj? (s : St) (id : Id) : Option O := Aiv.obj? s.loc s.out id

def St.setObj (s : St) (id : Id) (o : O) : St :=
  match id with
  | .l i => { s with loc := s.loc.set i o }
  | .o i => { s with out := s.out.set i o }

def St.rowOf (s : St) (id : Id) : Option (Nat × Row) :=
  match s.obj? id with
  | some (.row sz es) => some (sz, es)
  | some (.fro sz es) => some (sz, es)
  | _ => none

/-- The entries of a map. -/
def St.kvsOf (s : St) (id : Id) : Option (KVs) :=
  match s.obj? id with
  | some (.map kvs) => some kvs
  | some (.lock kvs) => some kvs
  | _ => none

/-- The elements of a slice. -/
def St.view (s : St) : C → Option Row
  | .d (.vec es) => some es
  | .nils => some []
  | .sl id off len => match s.rowOf id with
    | some (_, es) => if off + len ≤ es.length then some ((es.drop off).take len) else none
    | none => none
  | _ => none

/-- A cell as data: what is not frozen is none. -/
def St.toD (s : St) : C → Option D
  | .d x => some x
  | .nils => some (.vec [])
  | .sl id off len => match s.obj? id with
    | some (.fro _ es) => if off + len ≤ es.length then some (.vec ((es.drop off).take len)) else none
    | _ => none
  | _ => none

def mapO {α β : Type} (f : α → Option β) : List α → Option (List β)
  | [] => some []
  | a :: r => match f a with
    | some b => match mapO f r with
      | some bs => some (b :: bs)
      | none => none
    | none => none

def V.cells : V → List C
  | .c x => [x]
  | .agg cs => cs

def St.toDs (s : St) (v : V) : Option (List D) := mapO s.toD v.cells

def St.toDV (s : St) : V → Option DV
  | .c x => match s.toD x with
    | some d => some (.c d)
    | none => none
  | .agg cs => match mapO s.toD cs with
    | some ds => some (.agg ds)
    | none => none

def maxRow : Nat := 4294967296

def intOf : AV → Option Int
  | .v (.c (.d (.int _ n))) => some n
  | _ => none
def strOf : AV → Option (List UInt8)
  | .v (.c (.d (.str s))) => some s
  | _ => none
def boolOf : AV → Option Bool
  | .v (.c (.d (.bool b))) => some b
  | _ => none

def AV.d (x : D) : AV := .v (.c (.d x))

def binInt (op : BinOp) (k : IntKind) (a b : Int) : Option D :=
  match op with
  | .add => some (.int k (k.wrap (a + b)))
  | .sub => some (.int k (k.wrap (a - b)))
  | .mul => some (.int k (k.wrap (a * b)))
  | .quo => if b = 0 then none else some (.int k (k.wrap (a.tdiv b)))
  | .rem => if b = 0 then none else some (.int k (a.tmod b))
  | .and => some (.int k (k.wrap ((BitVec.ofInt k.bits a &&& BitVec.ofInt k.bits b).toNat : Int)))
  | .or => some (.int k (k.wrap ((BitVec.ofInt k.bits a ||| BitVec.ofInt k.bits b).toNat : Int)))
  | .xor => some (.int k (k.wrap ((BitVec.ofInt k.bits a ^^^ BitVec.ofInt k.bits b).toNat : Int)))
  | .andNot => some (.int k (k.wrap ((BitVec.ofInt k.bits a &&& ~~~(BitVec.ofInt k.bits b)).toNat : Int)))
  | .eql => some (.bool (a == b))
  | .neq => some (.bool (a != b))
  | .lss => some (.bool (decide (a < b)))
  | .leq => some (.bool (decide (a ≤ b)))
  | .gtr => some (.bool (decide (a > b)))
  | .geq => some (.bool (decide (a ≥ b)))
  | _ => none

def binStr (op : BinOp) (a b : List UInt8) : Option D :=
  match op with
  | .add => if a.length + b.length ≤ maxRow then some (.str (a ++ b)) else none
  | .eql => some (.bool (a == b))
  | .neq => some (.bool (!(a == b)))
  | .lss => some (.bool (Op.bytesLess a b))
  | .leq => some (.bool (Op.bytesLess a b || a == b))
  | .gtr => some (.bool (!(Op.bytesLess a b || a == b)))
  | .geq => some (.bool (!(Op.bytesLess a b)))
  | _ => none

def binD (op : BinOp) : AV → AV → Option AV
  | .v (.c (.d (.int k a))), .v (.c (.d (.int k' b))) =>
    match op with
    | .shl => if b < 0 then none else some (.d (.int k (k.wrap (a * 2 ^ (min b.toNat k.bits)))))
    | .shr => if b < 0 then none else some (.d (.int k (a.fdiv (2 ^ (min b.toNat k.bits)))))
    | op => if k = k' then (binInt op k a b).map .d else none
  | .v (.c (.d (.str a))), .v (.c (.d (.str b))) => (binStr op a b).map .d
  | _, _ => none

def eqCell : C → C → Option Bool
  | .d (.int k a), .d (.int k' b) => if k = k' then some (a == b) else none
  | .d (.str a), .d (.str b) => some (a == b)
  | .d (.bool a), .d (.bool b) => some (a == b)
  | _, _ => none

/-- Cells of these kinds: whether they are equal. -/
def eqCells : List Kd → List C → List C → Option Bool
  | [], [], [] => some true
  | k :: ks, x :: xs, y :: ys => match k, x, y with
    | .int k, .d (.int k1 a), .d (.int k2 b) => if k1 = k ∧ k2 = k then match eqCells ks xs ys with
      | some r => some ((a == b) && r)
      | none => none else none
    | .str, .d (.str a), .d (.str b) => match eqCells ks xs ys with
      | some r => some ((a == b) && r)
      | none => none
    | .bool, .d (.bool a), .d (.bool b) => match eqCells ks xs ys with
      | some r => some ((a == b) && r)
      | none => none
    | _, _, _ => none
  | _, _, _ => none

/-- Whether two keys of this kind are one; none where they can't be compared. -/
def eqKey (kk : Kd) (x y : DV) : Option Bool :=
  match kk, x, y with
  | .int _, .c (.int k1 a), .c (.int k2 b) => if k1 = k2 then some (a == b) else none
  | .str, .c (.str a), .c (.str b) => some (a == b)
  | _, _, _ => none

def findKV (kk : Kd) (k : DV) : KVs → Option (Option DV)
  | [] => some none
  | (k', v) :: r => match eqKey kk k k' with
    | some true => some (some v)
    | some false => findKV kk k r
    | none => none

def updKV (kk : Kd) (k v : DV) : KVs → Option KVs
  | [] => some [(k, v)]
  | (k', v') :: r => match eqKey kk k k' with
    | some true => some ((k, v) :: r)
    | some false => match updKV kk k v r with
      | some r' => some ((k', v') :: r')
      | none => none
    | none => none

def delKV (kk : Kd) (k : DV) : KVs → Option KVs
  | [] => some []
  | (k', v') :: r => match eqKey kk k k' with
    | some true => some r
    | some false => match delKV kk k r with
      | some r' => some ((k', v') :: r')
      | none => none
    | none => none

def setAt {α : Type} (off : Nat) (new : List α) (l : List α) : List α := l.take off ++ new ++ l.drop (off + new.length)

def buildC (s : St) (cs : List C) : List (Nat × Nat × Opd) → Option (List C)
  | [] => some cs
  | (off, n, x) :: r => match s.opd x with
    | .v v => if v.cells.length = n ∧ off + n ≤ cs.length then buildC s (setAt off v.cells cs) r else none
    | _ => none

def buildR (s : St) (sz : Nat) (es : Row) : List (Nat × Opd) → Option Row
  | [] => some es
  | (i, x) :: r => match s.opd x with
    | .v v => match s.toDs v with
      | some ds => if ds.length = sz ∧ i < es.length then buildR s sz (es.set i ds) r else none
      | none => none
    | _ => none

def ofCells (agg : Bool) (cs : List C) : Option AV :=
  if agg then some (.v (.agg cs)) else
  match cs with
  | [x] => some (.v (.c x))
  | _ => none

def ofData (ds : List D) : List C := ds.map .d

def takeN {α : Type} (off n : Nat) (l : List α) : Option (List α) :=
  if off + n ≤ l.length then some ((l.drop off).take n) else none

/-- Where a bound stands: from 0 to y. -/
def bound (y : Nat) : AV → Option Nat
  | .v (.c (.d (.int _ n))) => if 0 ≤ n ∧ n ≤ y then some n.toNat else none
  | _ => none

def boundO (s : St) (y dflt : Nat) : Option Opd → Option Nat
  | none => some dflt
  | some x => bound y (s.opd x)

def St.lenOf (s : St) : C → Option Nat
  | .d (.vec es) => some es.length
  | .nils => some 0
  | .sl id off len => match s.rowOf id with
    | some (_, es) => if off + len ≤ es.length then some len else none
    | none => none
  | _ => none

def okSz (sz : Nat) (es : Row) : Bool := es.all fun e => e.length == sz

def sliceC (s : St) (sz l h : Nat) : C → Option C
  | .d (.vec es) => if okSz sz es = true then some (.d (.vec ((es.drop l).take (h - l)))) else none
  | .nils => some .nils
  | .sl id off _ => match s.rowOf id with
    | some (sz', _) => if sz' = sz then some (.sl id (off + l) (h - l)) else none
    | none => none
  | _ => none

def sliceV (s : St) (sz : Nat) (x : C) (lo hi mx : Option Opd) : Option C :=
  match s.lenOf x, mx with
  | some _, some m => match hi with
    | some h => match bound 0 (s.opd m), bound 0 (s.opd h), boundO s 0 0 lo with
      | some _, some _, some _ => some .nils
      | _, _, _ => none
    | none => none
  | some n, none => match boundO s n n hi with
    | some h => match boundO s h 0 lo with
      | some l => sliceC s sz l h x
      | none => none
    | none => none
  | none, _ => none

def mmFrom (isMax : Bool) (k : IntKind) (a : Int) : List AV → Option AV
  | [] => some (.d (.int k a))
  | .v (.c (.d (.int _ b))) :: r => mmFrom isMax k (if isMax then (if b > a then b else a) else (if b < a then b else a)) r
  | _ => none

def minmax (isMax : Bool) : List AV → Option AV
  | .v (.c (.d (.int k a))) :: r => mmFrom isMax k a r
  | _ => none

def DV.toV : DV → V
  | .c x => .c (.d x)
  | .agg ds => .agg (ds.map .d)

/-- What a look-up gives. -/
def outKV (zero : V) : Option DV → V
  | none => zero
  | some d => d.toV

/-- What a closure may hold. -/
def capOf : AV → Option C
  | .v (.c (.fn _ _)) => none
  | .v (.c x) => some x
  | _ => none

/-- The steps that only give a value: they read the state, and turn nothing in it. -/
def evQ (s : St) : SOp → Option AV
  | .mov x => some (s.opd x)
  | .pick c a b => match boolOf (s.opd c) with
    | some t => some (if t then s.opd a else s.opd b)
    | none => none
  | .build zero parts => match buildC s zero parts with
    | some cs => some (.v (.agg cs))
    | none => none
  | .load agg n x => match s.opd x with
    | .v (.c (.ptr id off)) => match s.obj? id with
      | some (.box cs) => match takeN off n cs with
        | some r => ofCells agg r
        | none => none
      | _ => none
    | .sptr e off => match takeN off n e with
      | some r => ofCells agg (ofData r)
      | none => none
    | .rptr id i off => match s.rowOf id with
      | some (_, es) => match es[i]? with
        | some e => match takeN off n e with
          | some r => ofCells agg (ofData r)
          | none => none
        | none => none
      | none => none
    | _ => none
  | .nilchk x => match s.opd x with
    | .v (.c (.ptr id off)) => some (.v (.c (.ptr id off)))
    | .v (.c (.fn f cs)) => some (.v (.c (.fn f cs)))
    | _ => none
  | .bin op x y => binD op (s.opd x) (s.opd y)
  | .beq neg x y => match boolOf (s.opd x), boolOf (s.opd y) with
    | some a, some b => some (.d (.bool (if neg then a != b else a == b)))
    | _, _ => none
  | .eqa neg ks x y => match s.opd x, s.opd y with
    | .v (.agg xs), .v (.agg ys) => match eqCells ks xs ys with
      | some b => some (.d (.bool (if neg then !b else b)))
      | none => none
    | _, _ => none
  | .un op x => match op, s.opd x with
    | .neg, .v (.c (.d (.int k n))) => some (.d (.int k (k.wrap (0 - n))))
    | .not, .v (.c (.d (.bool b))) => some (.d (.bool (!b)))
    | _, _ => none
  | .cint k x => match intOf (s.opd x) with
    | some n => some (.d (.int k (k.wrap n)))
    | none => none
  | .cstr x => match strOf (s.opd x) with
    | some b => some (.d (.str b))
    | none => none
  | .b2s x => match s.opd x with
    | .v (.c c) => match s.view c with
      | some es => match mapO (fun e : List D => match e with | [.int .u8 n] => if 0 ≤ n ∧ n < 256 then some (UInt8.ofNat n.toNat) else none | _ => none) es with
        | some b => some (.d (.str b))
        | none => none
      | none => none
    | _ => none
  | .i2s x => match intOf (s.opd x) with
    | some n => if 0 ≤ n ∧ n < 128 then some (.d (.str [UInt8.ofNat n.toNat])) else none
    | none => none
  | .mkfn f caps => match mapO (fun o => capOf (s.opd o)) caps with
    | some cs => some (.v (.c (.fn f cs)))
    | none => none
  | .sslice x lo hi => match strOf (s.opd x) with
    | some b => match boundO s b.length b.length hi with
      | some h => match boundO s h 0 lo with
        | some l => some (.d (.str ((b.drop l).take (h - l))))
        | none => none
      | none => none
    | none => none
  | .vslice sz x lo hi mx => match s.opd x with
    | .v (.c c) => match sliceV s sz c lo hi mx with
      | some r => some (.v (.c r))
      | none => none
    | _ => none
  | .faddr off x => match s.opd x with
    | .v (.c (.ptr id o)) => some (.v (.c (.ptr id (o + off))))
    | .sptr e o => some (.sptr e (o + off))
    | .rptr id i o => match s.rowOf id with
      | some _ => some (.rptr id i (o + off))
      | none => none
    | _ => none
  | .iaddr sz x i => match s.opd x, intOf (s.opd i) with
    | .v (.c (.d (.vec es))), some n => if 0 ≤ n then match es[n.toNat]? with
      | some e => if e.length = sz then some (.sptr e 0) else none
      | none => none else none
    | .v (.c (.sl id off len)), some n => if 0 ≤ n ∧ n < len then match s.rowOf id with
      | some (sz', _) => if sz' = sz then some (.rptr id (off + n.toNat) 0) else none
      | none => none else none
    | _, _ => none
  | .sidx x i => match strOf (s.opd x), intOf (s.opd i) with
    | some b, some n => if 0 ≤ n then match b[n.toNat]? with
      | some c => some (.d (.int .u8 c.toNat))
      | none => none else none
    | _, _ => none
  | .field agg off n x => match s.opd x with
    | .v (.agg cs) => match takeN off n cs with
      | some r => ofCells agg r
      | none => none
    | _ => none
  | .look kk zero m k ok => match s.opd m, s.opd k with
    | .v (.c (.map id)), .v kv => match s.toDV kv, s.kvsOf id with
      | some kd, some kvs => match findKV kk kd kvs with
        | some r => some (if ok then .tup [outKV zero r, .c (.d (.bool r.isSome))] else .v (outKV zero r))
        | none => none
      | _, _ => none
    | _, _ => none
  | .slen x => match strOf (s.opd x) with
    | some b => some (.d (.int .i64 b.length))
    | none => none
  | .vlen x => match s.opd x with
    | .v (.c (.d (.vec es))) => some (.d (.int .i64 es.length))
    | .v (.c .nils) => some (.d (.int .i64 0))
    | .v (.c (.sl _ _ len)) => some (.d (.int .i64 len))
    | _ => none
  | .mlen x => match s.opd x with
    | .v (.c (.map id)) => match s.kvsOf id with
      | some kvs => some (.d (.int .i64 kvs.length))
      | none => none
    | .v (.c (.d .nm)) => some (.d (.int .i64 0))
    | _ => none
  | .max xs => minmax true (xs.map s.opd)
  | .min xs => minmax false (xs.map s.opd)
  | .extract x i => match s.opd x with
    | .tup vs => match vs[i]? with
      | some v => some (.v v)
      | none => none
    | _ => none
  | .entry x => match s.opd x with
    | .v (.c (.itr id)) => match s.obj? id with
      | some (.iter _ _ (some (k, v))) => some (.tup [k.toV, v.toV])
      | _ => none
    | _ => none
  | _ => none

/-- The object of a row can no longer be written: whoever holds a part of it holds data. -/
def frzId (s : St) (id : Id) : St :=
  match s.obj? id with
  | some (.row sz es) => s.setObj id (.fro sz es)
  | _ => s

def frzC (s : St) : C → St
  | .sl id _ _ => frzId s id
  | _ => s

def frzAV (s : St) : AV → St
  | .v v => v.cells.foldl frzC s
  | _ => s

def relId (π : Id → Option Id) (mk : Id → C) (id : Id) : C :=
  match π id with
  | some i => mk i
  | none => .any

/-- A cell under new names of the objects. -/
def relC0 (π : Id → Option Id) : C → C
  | .any => .any
  | .d x => .d x
  | .nils => .nils
  | .sl id off len => relId π (.sl · off len) id
  | .ptr id off => relId π (.ptr · off) id
  | .map id => relId π .map id
  | .itr id => relId π .itr id
  | .fn _ _ => .any

def relC (π : Id → Option Id) : C → C
  | .fn f caps => .fn f (caps.map (relC0 π))
  | x => relC0 π x

def relV (π : Id → Option Id) : V → V
  | .c x => .c (relC π x)
  | .agg cs => .agg (cs.map (relC π))

def relAV (π : Id → Option Id) : AV → AV
  | .any => .any
  | .un => .un
  | .v v => .v (relV π v)
  | .sptr e off => .sptr e off
  | .rptr id i off => match π id with
    | some id => .rptr id i off
    | none => .any
  | .tup vs => .tup (vs.map (relV π))

def relO (π : Id → Option Id) : O → O
  | .box cs => .box (cs.map (relC π))
  | .row sz es => .row sz es
  | .fro sz es => .fro sz es
  | .map kvs => .map kvs
  | .lock kvs => .lock kvs
  | .iter m left cur => match π m with
    | some m => .iter m left cur
    | none => .dead
  | .dead => .dead

/-- What a call hands back: its result, its own objects, what was handed in. -/
structure Ret where
  res : AV
  loc : List O
  out : List O

def shiftL (n : Nat) : Id → Option Id
  | .l i => some (.l (i + n))
  | .o _ => none

/-- Into a call: all objects are handed in. -/
def intoCall (n : Nat) : Id → Option Id
  | .o i => some (.o i)
  | .l i => some (.o (n + i))

/-- Back from a call: n objects had been handed in, m had been the caller's own. -/
def fromCall (n m : Nat) : Id → Option Id
  | .o i => if i < n then some (.o i) else if i < n + m then some (.l (i - n)) else none
  | .l i => some (.l (m + i))

/-- A cell as data for the time of a call that gets data alone. -/
def St.lend (s : St) : C → Option D
  | .d x => some x
  | .nils => some (.vec [])
  | .sl id off len => match s.view (.sl id off len) with
    | some es => some (.vec es)
    | none => none
  | _ => none

def lendV (s : St) : V → Option V
  | .c x => match s.lend x with
    | some d => some (.c (.d d))
    | none => none
  | .agg cs => match mapO s.lend cs with
    | some ds => some (.agg (ofData ds))
    | none => none

def scalarD : D → Bool
  | .vec _ => false
  | _ => true
def scalarC : C → Bool
  | .d x => scalarD x
  | _ => false
def scalarV (v : V) : Bool := v.cells.all scalarC
def scalarAV : AV → Bool
  | .v v => scalarV v
  | .tup vs => vs.all scalarV
  | _ => false

def frzV (s : St) (v : V) : St := v.cells.foldl frzC s

def asDataV (s : St) (v : V) : Option V :=
  match v with
  | .c x => match s.toD x with
    | some d => some (.c (.d d))
    | none => none
  | .agg cs => match mapO s.toD cs with
    | some ds => some (.agg (ofData ds))
    | none => none

/-- A call that gets references. -/
def callRef (call : Nat → List V → List O → M Ret) (s : St) (dst : Option Nat) (f : Nat) (args : List V) : M St :=
  let n := s.out.length
  let m := s.loc.length
  (call f (args.map (relV (intoCall n))) ((s.out ++ s.loc).map (relO (intoCall n)))).bind fun r =>
    let o := r.out.map (relO (fromCall n m))
    .ret (St.put { env := s.env, loc := o.drop n ++ r.loc.map (relO (fromCall n m)), out := o.take n } dst (relAV (fromCall n m) r.res))

def doCall (call : Nat → List V → List O → M Ret) (s : St) (dst : Option Nat) (lend : Bool) (f : Nat) (args : List V) : M St :=
  if lend then
    match mapO (lendV s) args with
    | some vs => (call f vs []).bind fun r => if scalarAV r.res then .ret (s.put dst r.res) else .fail
    | none => callRef call s dst f args
  else
    let s1 := args.foldl frzV s
    match mapO (asDataV s1) args with
    | some vs => (call f vs []).bind fun r =>
      .ret (St.put { s1 with loc := s1.loc ++ r.loc.map (relO (shiftL s1.loc.length)) } dst (relAV (shiftL s1.loc.length) r.res))
    | none => callRef call s dst f args

def opdV (s : St) (x : Opd) : Option V :=
  match s.opd x with
  | .v v => some v
  | _ => none

/-- New elements for an append: those of a slice, or the bytes of a string. -/
def newsOf (s : St) : AV → Option Row
  | .v (.c (.d (.str b))) => some (b.map fun c => [.int .u8 c.toNat])
  | .v (.c c) => s.view c
  | _ => none

def newObj (s : St) (o : O) : St := { s with loc := s.loc ++ [o] }

/-- How long a slice is that may be nil. -/
def St.nilLen (s : St) : C → Option Nat
  | .d (.vec es) => some es.length
  | .nils => some 0
  | .sl id _ len => match s.rowOf id with
    | some _ => some len
    | none => none
  | _ => none

/-- One step that may turn the state. -/
def aop (call : Nat → List V → List O → M Ret) (s : St) (dst : Option Nat) : SOp → M St
  | .alloc zero => .ret ((newObj s (.box zero)).put dst (.v (.c (.ptr (.l s.loc.length) 0))))
  | .box n x => match opdV s x with
    | some v => if v.cells.length = n then .ret ((newObj s (.box v.cells)).put dst (.v (.c (.ptr (.l s.loc.length) 0)))) else .fail
    | none => .fail
  | .bslice own sz zero len parts => if zero.length = sz ∧ 0 < sz ∧ len * sz ≤ 65536 then
      let s1 := (parts.filterMap fun p => opdV s p.2).foldl frzV s
      match buildR s1 sz (List.replicate len zero) parts with
      | some es => if own then .ret ((newObj s1 (.row sz es)).put dst (.v (.c (.sl (.l s1.loc.length) 0 len)))) else .ret (s1.put dst (.d (.vec es)))
      | none => .fail
    else .fail
  | .mkmap r => if (match r with | none => true | some x => (intOf (s.opd x)).isSome) then
      .ret ((newObj s (.map [])).put dst (.v (.c (.map (.l s.loc.length))))) else .fail
  | .mkslice sz bytes zero len cap => match intOf (s.opd len), intOf (s.opd cap) with
    | some n, some c => if 0 ≤ n ∧ n = c ∧ n ≤ maxRow ∧ bytes ≤ 4096 ∧ zero.length = sz ∧ 0 < sz then
        .ret ((newObj s (.row sz (List.replicate n.toNat zero))).put dst (.v (.c (.sl (.l s.loc.length) 0 n.toNat)))) else .fail
    | _, _ => .fail
  | .store n a x => match s.opd a, opdV s x with
    | .v (.c (.ptr id off)), some v => match s.obj? id with
      | some (.box cs) => if v.cells.length = n ∧ off + n ≤ cs.length then .ret ((s.setObj id (.box (setAt off v.cells cs))).put dst .un) else .fail
      | _ => .fail
    | .rptr id i off, some v =>
      let s1 := frzV s v
      match s1.obj? id, s1.toDs v with
      | some (.row sz es), some ds => match es[i]? with
        | some e => if ds.length = n ∧ off + n ≤ e.length then .ret ((s1.setObj id (.row sz (es.set i (setAt off ds e)))).put dst .un) else .fail
        | none => .fail
      | _, _ => .fail
    | _, _ => .fail
  | .mupd kk m k x => match s.opd m, opdV s k, opdV s x with
    | .v (.c (.map id)), some kv, some xv =>
      let s1 := [kv, xv].foldl frzV s
      match s1.obj? id, s1.toDV kv, s1.toDV xv with
      | some (.map kvs), some kd, some xd => match updKV kk kd xd kvs with
        | some kvs' => .ret ((s1.setObj id (.map kvs')).put dst .un)
        | none => .fail
      | _, _, _ => .fail
    | _, _, _ => .fail
  | .mdel kk m k => match s.opd m, opdV s k with
    | .v (.c (.map id)), some kv => match s.obj? id, s.toDV kv with
      | some (.map kvs), some kd => match delKV kk kd kvs with
        | some kvs' => .ret ((s.setObj id (.map kvs')).put dst (.tup []))
        | none => .fail
      | _, _ => .fail
    | _, _ => .fail
  | .call lend f args => match mapO (opdV s) args with
    | some vs => doCall call s dst lend f vs
    | none => .fail
  | .callv fv args => match s.opd fv, mapO (opdV s) args with
    | .v (.c (.fn f caps)), some vs => doCall call s dst false f (vs ++ caps.map .c)
    | _, _ => .fail
  | .append sz bytes a x => match opdV s a, newsOf s (s.opd x) with
    | some (.c c), some news => match s.view c with
      | some es => if es.length + news.length ≤ maxRow ∧ bytes ≤ 4096 ∧ okSz sz es ∧ okSz sz news ∧ 0 < sz then
          match c with
          | .nils => .ret ((newObj s (.row sz news)).put dst (.v (.c (.sl (.l s.loc.length) 0 news.length))))
          | .sl id 0 len => match s.obj? id with
            | some (.row sz' _) => if sz' = sz then
                .ret ((newObj (s.setObj id .dead) (.row sz (es ++ news))).put dst (.v (.c (.sl (.l s.loc.length) 0 (len + news.length))))) else .fail
            | _ => .fail
          | _ => .fail
        else .fail
      | none => .fail
    | _, _ => .fail
  | .copy sz a x => match opdV s a, newsOf s (s.opd x) with
    | some (.c (.sl id off len)), some src => match s.obj? id with
      | some (.row sz' es) =>
        let n := Nat.min src.length len
        if sz' = sz ∧ off + len ≤ es.length ∧ okSz sz src then
          .ret ((s.setObj id (.row sz (setAt off (src.take n) es))).put dst (.d (.int .i64 n))) else .fail
      | _ => .fail
    | _, _ => .fail
  | .range x => match s.opd x with
    | .v (.c (.map id)) => match s.kvsOf id with
      | some kvs => .ret ((newObj (s.setObj id (.lock kvs)) (.iter id kvs none)).put dst (.v (.c (.itr (.l s.loc.length)))))
      | none => .fail
    | _ => .fail
  | .next x => match s.opd x with
    | .v (.c (.itr id)) => match s.obj? id with
      | some (.iter m left _) => match s.obj? m with
        | some (.lock _) => match left with
          | [] => .ret (s.put dst (.tup [.c (.d (.bool false))]))
          | _ :: _ => .ask left.length fun i => match left[i]? with
            | some kv => .ret ((s.setObj id (.iter m (left.eraseIdx i) (some kv))).put dst (.tup [.c (.d (.bool true))]))
            | none => .fail
        | _ => .fail
      | _ => .fail
    | _ => .fail
  | .isnil neg x => match opdV s x with
    | some (.c c) => match s.nilLen c with
      | some 0 => .ask 2 fun i => .ret (s.put dst (.d (.bool (i == 0))))
      | some _ => .ret (s.put dst (.d (.bool neg)))
      | none => .fail
    | _ => .fail
  | o => match evQ s o with
    | some v => .ret (s.put dst v)
    | none => .fail

/-- A step with its guard. -/
def runG (step : St → M St) (o : SOper) (s : St) : M St :=
  match o.guard with
  | none => step s
  | some (t, want) => match get t s.env with
    | .un => .ret (s.put o.dst .un)
    | .v (.c (.d (.bool b))) => if b = want then step s else .ret (s.put o.dst .un)
    | _ => .fail

def runOps (call : Nat → List V → List O → M Ret) : List SOper → St → M St
  | [], s => .ret s
  | o :: r, s => (runG (fun s => aop call s o.dst o.op) o s).bind (runOps call r)

/-- A quiet step: a value, and nothing turns. -/
def aq (s : St) : SOp → Option AV
  | .bslice false sz zero len parts => if zero.length = sz ∧ 0 < sz ∧ len * sz ≤ 65536 then
      match buildR s sz (List.replicate len zero) parts with
      | some es => some (.d (.vec es))
      | none => none
    else none
  | o => evQ s o

def St.bare (s : St) : St := { s with loc := [], out := [] }

/-- The steps that leave the old objects alone. -/
def mildOk (s : St) : SOp → Bool
  | .alloc _ => true
  | .box _ _ => true
  | .bslice _ _ _ _ _ => true
  | .mkmap _ => true
  | .mkslice _ _ _ _ _ => true
  | .call lend _ args => match mapO (opdV s) args with
    | some vs => if lend then (mapO (lendV s) vs).isSome else (mapO (asDataV (vs.foldl frzV s)) vs).isSome
    | none => false
  | _ => false

/-- A step of a region whose steps may come in many orders. -/
def runD (call : Nat → List V → List O → M Ret) (k : DK) (o : SOper) (s : St) : M St :=
  runG (fun s => match k with
    | .quiet => match aq s o.op with
      | some r => .ret (s.put o.dst r)
      | none => .fail
    | .pure => match aq s.bare o.op with
      | some r => .ret (s.put o.dst r)
      | none => .fail
    | .mild => if mildOk s o.op then aop call s o.dst o.op else .fail
    | .heavy => aop call s o.dst o.op) o s

def runTree (call : Nat → List V → List O → M Ret) : DTree → St → M St
  | .done, s => .ret s
  | .step k o t, s => (runD call k o s).bind (runTree call t)
  | .fork a b, s => .ask 2 fun i => if i = 0 then runTree call a s else runTree call b s

def St.keep (s : St) (ts : List Nat) : St := { s with env := ts.map fun t => (t, get t s.env) }

def idsC0 : C → List Nat
  | .sl (.l i) _ _ => [i]
  | .ptr (.l i) _ => [i]
  | .map (.l i) => [i]
  | .itr (.l i) => [i]
  | _ => []
def idsC : C → List Nat
  | .fn _ caps => caps.flatMap idsC0
  | x => idsC0 x
def idsV (v : V) : List Nat := v.cells.flatMap idsC
def idsAV : AV → List Nat
  | .v v => idsV v
  | .rptr (.l i) _ _ => [i]
  | .tup vs => vs.flatMap idsV
  | _ => []
def idsO : O → List Nat
  | .box cs => cs.flatMap idsC
  | .iter (.l m) _ _ => [m]
  | _ => []

def gather (loc : List O) : Nat → List Nat → List Nat → List Nat
  | 0, _, done => done
  | _ + 1, [], done => done
  | n + 1, i :: todo, done => if done.contains i then gather loc n todo done else
    match loc[i]? with
    | some o => gather loc n (idsO o ++ todo) (done ++ [i])
    | none => gather loc n todo done

def posIn (i : Nat) : List Nat → Option Nat
  | [] => none
  | j :: r => if j = i then some 0 else match posIn i r with
    | some k => some (k + 1)
    | none => none

def place (order : List Nat) : Id → Option Id
  | .o i => some (.o i)
  | .l i => match posIn i order with
    | some j => some (.l j)
    | none => none

def grow1 (s : St) : Nat × Option Nat × Nat → St
  | (t, none, sz) => match get t s.env with
    | .v (.c .nils) => (newObj s (.row sz [])).put (some t) (.v (.c (.sl (.l s.loc.length) 0 0)))
    | _ => s
  | (t, some j, sz) => match get t s.env with
    | .v (.c (.ptr id 0)) => match s.obj? id with
      | some (.box cs) => match cs[j]? with
        | some .nils => (newObj s (.row sz [])).setObj id (.box (cs.set j (.sl (.l s.loc.length) 0 0)))
        | _ => s
      | _ => s
    | _ => s

def gc (live : List Nat) (s : St) : St :=
  let env := live.map fun t => (t, get t s.env)
  let order := gather s.loc 1000 (env.flatMap (fun p => idsAV p.2) ++ s.out.flatMap idsO) []
  { env := env.map fun p => (p.1, relAV (place order) p.2)
    loc := order.map fun i => relO (place order) (s.loc.getD i .dead)
    out := s.out.map (relO (place order)) }

def norm (live : List Nat) (grow : List (Nat × Option Nat × Nat)) (s : St) : St := gc live (grow.foldl grow1 s)

inductive Ex where
  | normal
  | exit (id : Nat)
  | ret

def iterM (body : St → M (Ex × St)) (nrm : St → St) : Nat → St → M (Ex × St)
  | 0, _ => .fail
  | n + 1, s => (body (nrm s)).bind fun r => match r.1 with
    | .normal => iterM body nrm n r.2
    | e => .ret (e, r.2)

def aexec (call : Nat → List V → List O → M Ret) (fuel : Nat) : SCode → St → M (Ex × St)
  | .skip, s => .ret (.normal, s)
  | .reg ops ks, s => (runOps call ops s).bind fun s' => .ret (.normal, s'.keep ks)
  | .draw t ks, s => (runTree call t s).bind fun s' => .ret (.normal, s'.keep ks)
  | .seq a b, s => (aexec call fuel a s).bind fun r => match r.1 with
    | .normal => aexec call fuel b r.2
    | e => .ret (e, r.2)
  | .cond c a b, s => match boolOf (s.opd c) with
    | some true => aexec call fuel a s
    | some false => aexec call fuel b s
    | none => .fail
  | .block id b, s => (aexec call fuel b s).bind fun r => match r.1 with
    | .exit j => if j = id then .ret (.normal, r.2) else .ret (.exit j, r.2)
    | e => .ret (e, r.2)
  | .loop live grow b, s => iterM (aexec call fuel b) (norm live grow) fuel s
  | .exit id, s => .ret (.exit id, s)
  | .ret, s => .ret (.ret, s)

def resOf (s : St) : SRes → Option V
  | .tmp t => opdV s (.tmp t)
  | .cell t agg n => match evQ s (.load agg n (.tmp t)) with
    | some (.v v) => some v
    | _ => none

def tupOf : List V → AV
  | [v] => .v v
  | vs => .tup vs

def onlyO : Id → Option Id
  | .o i => some (.o i)
  | .l _ => none

def finish (sf : SFunc) (s : St) : M Ret :=
  match mapO (resOf s) sf.results with
  | none => .fail
  | some vs =>
    if sf.asData then
      match mapO (asDataV (vs.foldl frzV s)) vs with
      | some ds => .ret ⟨tupOf ds, [], (vs.foldl frzV s).out.map (relO onlyO)⟩
      | none => .fail
    else .ret ⟨tupOf vs, s.loc, s.out⟩

def enter (args : List V) : List (Nat × AV) := args.zipIdx.map fun p => (p.2, .v p.1)

/-- A program: a function for each number, and answers for those that have no code here. -/
structure SProg where
  fn : Nat → Option SFunc
  orc : Nat → List V → List O → Option Ret

def arun (P : SProg) : Nat → Nat → List V → List O → M Ret
  | 0, _, _, _ => .fail
  | n + 1, f, args, out => match P.fn f with
    | some sf => if args.length = sf.nparams then (aexec (arun P n) n sf.body ⟨enter args, [], out⟩).bind fun r => match r.1 with
      | .exit _ => .fail
      | _ => finish sf r.2 else .fail
    | none => M.ofO (P.orc f args out)

end Go.Aiv

namespace Go.Aiv

structure Cfg where
  fnOf : List (Nat × Nat)                     -- a function's number in the program, and its number here
  keep : List (Nat × List Nat)                -- a region's number, and the temporaries that are read behind it
  loops : List (Nat × List Nat × List (Nat × Option Nat × Nat))   -- the number of a loop's first region, what lives at its head, what grows
  nt : Nat                                    -- how many temporaries there are
  mild : List Nat                             -- temporaries of calls, in regions of many orders, that get data alone
  own : List Nat                              -- temporaries whose literal slices are this call's own
  asData : Bool

def lookN {α : Type} (n : Nat) : List (Nat × α) → Option α
  | [] => none
  | (i, a) :: r => if i = n then some a else lookN n r

def constC : Value → Option C
  | .int k n => some (.d (.int k n))
  | .bool b => some (.d (.bool b))
  | .string s => some (.d (.str s.data.toList))
  | .slice none 0 0 => some .nils
  | .map none => some (.d .nm)
  | .pointer none => some (.d .np)
  | .nilFunc => some (.d .nf)
  | _ => none

def constV : Value → Option V
  | .agg cs => (mapO constC cs.toList).map .agg
  | v => (constC v).map .c

def dataC : C → Option D
  | .d x => some x
  | .nils => some (.vec [])
  | _ => none

variable (P : Program) (K : Cfg)

def cOpd : Operand → Option Opd
  | .tmp t => some (.tmp t)
  | .const v => (constV v).map .con
  | .func f => (lookN f K.fnOf).map .fn
  | _ => none

def cOpds (xs : List Operand) : Option (List Opd) := mapO (cOpd K) xs

def cOpdO : Option Operand → Option (Option Opd)
  | none => some none
  | some x => (cOpd K x).map some

def zeroC (t : TypeId) : Option (List C) := do
  let i ← P.info? t
  let z ← i.zero
  let v ← constV z
  if v.cells.length = i.size then some v.cells else none

def aggT (t : TypeId) : Option Bool :=
  match P.underlying t with
  | some (.struct _) => some true
  | some (.array _ _) => some true
  | some _ => some false
  | none => none

def sizeT (t : TypeId) : Option Nat := (P.info? t).map (·.size)

def zeroV (t : TypeId) : Option V := do
  let i ← P.info? t
  let z ← i.zero
  constV z

/-- One cell a value: no type of size 0, no struct of one cell taken for its cell. -/
def loadShape (t : TypeId) : Option (Bool × Nat) :=
  match aggT P t, sizeT P t with
  | some a, some n => if a = true ∨ n = 1 then some (a, n) else none
  | _, _ => none

/-- The kinds of the cells of a type that is compared cell by cell. -/
def flatFs (flat : TypeId → Option (List Kd)) (acc : List Kd) : List Field → Option (List Kd)
  | [] => some acc
  | f :: r => if f.name ≠ "_" ∧ f.offset = acc.length then match flat f.type with
    | some ks => if sizeT P f.type = some ks.length then flatFs flat (acc ++ ks) r else none
    | none => none else none

def flatT : Nat → TypeId → Option (List Kd)
  | 0, _ => none
  | d + 1, t => match P.underlying t with
    | some (.int k) => some [.int k]
    | some .string => some [.str]
    | some .bool => some [.bool]
    | some (.struct fs) => if P.stoodInHeld t = false then flatFs P (flatT d) [] fs.toList else none
    | _ => none

def scalarT (t : TypeId) : Bool :=
  match P.underlying t with
  | some (.int _) => true
  | some .bool => true
  | some .string => true
  | _ => false

/-- Whether a function's results hold no reference. -/
def lendF (f : FuncId) : Bool :=
  match P.funcs[f]? with
  | some fn => fn.resultTypes.all (scalarT P)
  | none => false

def cPart (pl : List (Nat × Nat)) (p : Nat × Operand) : Option (Nat × Nat × Opd) :=
  match pl[p.1]?, cOpd K p.2 with
  | some (off, n), some x => some (off, n, x)
  | _, _ => none

/-- A kind of key, and its type's form. -/
def keyKd (t : TypeId) : Option Kd :=
  match P.underlying t with
  | some (.int k) => some (.int k)
  | some .string => some .str
  | _ => none

def cOp (o : Oper) : Option SOp :=
  match o.op with
  | .move x | .assign x => (cOpd K x).map .mov
  | .pick c a b => do some (.pick (← cOpd K c) (← cOpd K a) (← cOpd K b))
  | .alloc t => do some (.alloc (← zeroC P t))
  | .box t x => do some (.box (← sizeT P t) (← cOpd K x))
  | .build t parts =>
    match P.underlying t with
    | some (.struct fs) => do
      let pl ← fs.toList.mapM fun f => (P.info? f.type).map fun i => (f.offset, i.size)
      let ps ← mapO (cPart K pl) parts.toList
      some (.build (← zeroC P t) ps)
    | _ => none
  | .buildSlice t len parts =>
    match P.underlying t with
    | some (.slice e) => do
      let z ← mapO dataC (← zeroC P e)
      let ps ← mapO (fun (p : Nat × Operand) => do some (p.1, (← cOpd K p.2))) parts.toList
      some (.bslice (match o.dst with | some d => K.own.contains d | none => false) (← sizeT P e) z len ps)
    | _ => none
  | .load t a => do
    let (g, n) ← loadShape P t
    some (.load g n (← cOpd K a))
  | .store t a x => do
    let (_, n) ← loadShape P t
    some (.store n (← cOpd K a) (← cOpd K x))
  | .nilCheck x => (cOpd K x).map .nilchk
  | .binOp op t x y _ =>
    match P.underlying t with
    | some (.int _) => do some (.bin op (← cOpd K x) (← cOpd K y))
    | some .string => do some (.bin op (← cOpd K x) (← cOpd K y))
    | some .bool => do
      match op with
      | .eql => some (.beq false (← cOpd K x) (← cOpd K y))
      | .neq => some (.beq true (← cOpd K x) (← cOpd K y))
      | _ => none
    | some (.struct _) => do
      let ks ← flatT P 10000 t
      if P.eqGuardType P.depth t = false then
        match op with
        | .eql => some (.eqa false ks (← cOpd K x) (← cOpd K y))
        | .neq => some (.eqa true ks (← cOpd K x) (← cOpd K y))
        | _ => none
      else none
    | some (.slice _) =>
      match y with
      | .const (.slice none 0 0) => match op with
        | .eql => do some (.isnil false (← cOpd K x))
        | .neq => do some (.isnil true (← cOpd K x))
        | _ => none
      | _ => none
    | _ => none
  | .unOp op _ x => do some (.un op (← cOpd K x))
  | .convert s t x =>
    match P.underlying s, P.underlying t with
    | some (.int _), some (.int k) => do some (.cint k (← cOpd K x))
    | some .string, some .string => do some (.cstr (← cOpd K x))
    | some (.int _), some .string => do some (.i2s (← cOpd K x))
    | some (.slice e), some .string => match P.underlying e with
      | some (.int .u8) => do some (.b2s (← cOpd K x))
      | _ => none
    | some .string, some (.slice e) => match P.underlying e with
      | some (.int .u8) => do some (.s2b (← cOpd K x))
      | _ => none
    | _, _ => none
  | .makeFunc (.func f) first caps => do
    if first.isEmpty then some (.mkfn (← lookN f K.fnOf) (← cOpds K caps.toList)) else none
  | .makeMap t r =>
    match P.underlying t with
    | some (.map _ _) => do some (.mkmap (← cOpdO K r))
    | _ => none
  | .makeSlice t len cap =>
    match P.underlying t with
    | some (.slice e) => do
      let i ← P.info? e
      some (.mkslice i.size i.bytes (← mapO dataC (← zeroC P e)) (← cOpd K len) (← cOpd K cap))
    | _ => none
  | .slice t x lo hi mx =>
    match P.underlying t with
    | some .string => do if mx.isSome then none else some (.sslice (← cOpd K x) (← cOpdO K lo) (← cOpdO K hi))
    | some (.slice e) => do some (.vslice (← sizeT P e) (← cOpd K x) (← cOpdO K lo) (← cOpdO K hi) (← cOpdO K mx))
    | _ => none
  | .fieldAddr s x f =>
    match P.underlying s with
    | some (.struct fs) => do
      let f ← fs[f]?
      if (← sizeT P f.type) = 0 then none else some (.faddr f.offset (← cOpd K x))
    | _ => none
  | .field s x f =>
    match P.underlying s with
    | some (.struct fs) => do
      let f ← fs[f]?
      let (g, n) ← loadShape P f.type
      some (.field g f.offset n (← cOpd K x))
    | _ => none
  | .indexAddr t x i =>
    match P.underlying t with
    | some (.slice e) => do some (.iaddr (← sizeT P e) (← cOpd K x) (← cOpd K i))
    | _ => none
  | .index t x i =>
    match P.underlying t with
    | some .string => do some (.sidx (← cOpd K x) (← cOpd K i))
    | _ => none
  | .lookup t m k ok =>
    match P.underlying t with
    | some (.map kt e) => do some (.look (← keyKd P kt) (← zeroV P e) (← cOpd K m) (← cOpd K k) ok)
    | _ => none
  | .mapUpdate t m k x | .insert t m k x =>
    match P.underlying t with
    | some (.map kt _) => do some (.mupd (← keyKd P kt) (← cOpd K m) (← cOpd K k) (← cOpd K x))
    | _ => none
  | .call c =>
    match c.callee with
    | .value (.func f) => do some (.call (lendF P f) (← lookN f K.fnOf) (← cOpds K c.args.toList))
    | .value (.tmp t) => do some (.callv (.tmp t) (← cOpds K c.args.toList))
    | .builtin .len =>
      match c.argTypes.toList, c.args.toList with
      | [t], [x] => match P.underlying t with
        | some .string => (cOpd K x).map .slen
        | some (.slice _) => (cOpd K x).map .vlen
        | some (.map _ _) => (cOpd K x).map .mlen
        | _ => none
      | _, _ => none
    | .builtin .append =>
      match c.argTypes.toList, c.args.toList with
      | [t, u], [s, x] => match P.underlying t, P.underlying u with
        | some (.slice e), some (.slice _) => do
          let i ← P.info? e
          let z ← zeroC P e
          some (.append z.length i.bytes (← cOpd K s) (← cOpd K x))
        | some (.slice e), some .string => do
          let i ← P.info? e
          let z ← zeroC P e
          some (.append z.length i.bytes (← cOpd K s) (← cOpd K x))
        | _, _ => none
      | _, _ => none
    | .builtin .copy =>
      match c.argTypes.toList, c.args.toList with
      | [t, _], [s, x] => match P.underlying t with
        | some (.slice e) => do some (.copy (← sizeT P e) (← cOpd K s) (← cOpd K x))
        | _ => none
      | _, _ => none
    | .builtin .delete =>
      match c.argTypes.toList, c.args.toList with
      | [t, _], [m, k] => match P.underlying t with
        | some (.map kt _) => do some (.mdel (← keyKd P kt) (← cOpd K m) (← cOpd K k))
        | _ => none
      | _, _ => none
    | .builtin .max => do some (.max (← cOpds K c.args.toList))
    | .builtin .min => do some (.min (← cOpds K c.args.toList))
    | _ => none
  | .extract x i => do some (.extract (← cOpd K x) i)
  | .range t x =>
    match P.underlying t with
    | some (.map _ _) => do some (.range (← cOpd K x))
    | _ => none
  | .next x false => do some (.next (← cOpd K x))
  | .entry x => do some (.entry (← cOpd K x))
  | _ => none

def cGuard (ops : Array Oper) : Option (Nat × Bool) → Option (Option (Nat × Bool))
  | none => some none
  | some (j, want) => match (ops[j]?).bind (·.dst) with
    | some t => some (some (t, want))
    | none => none

def dstOk (o : Oper) : Bool :=
  match o.dst with
  | some d => decide (d < K.nt)
  | none => true

def cOper (ops : Array Oper) (o : Oper) : Option SOper :=
  match cGuard ops o.guard, cOp P K o with
  | some g, some x => if dstOk K o = true then some ⟨o.dst, g, x⟩ else none
  | _, _ => none

end Go.Aiv

namespace Go.Aiv

/-- A cell's value holds the data; no cell that is read lies in a block of X. -/
inductive RepD (w : World) (X : Nat → Prop) : D → Value → Prop
  | int (k : IntKind) (n : Int) : RepD w X (.int k n) (.int k n)
  | bool (b : Bool) : RepD w X (.bool b) (.bool b)
  | str (s : List UInt8) (b : ByteArray) : b.data.toList = s → RepD w X (.str s) (.string b)
  | np : RepD w X .np (.pointer none)
  | nm : RepD w X .nm (.map none)
  | nf : RepD w X .nf .nilFunc
  | vec0 (a : Option Addr) (c : Nat) : RepD w X (.vec []) (.slice a 0 c)
  | vec (es : Row) (b off sz cap : Nat) (f : Nat → Nat → Value) : ¬ X b → b < w.heap.size → es.length ≤ cap → (∀ e ∈ es, e.length = sz) →
      (∀ (i j : Nat) e d, es[i]? = some e → e[j]? = some d → w.cell? ⟨b, off + i * sz + j, none⟩ = some (f i j)) →
      (∀ (i j : Nat) e d, es[i]? = some e → e[j]? = some d → RepD w X d (f i j)) → RepD w X (.vec es) (.slice (some ⟨b, off, none⟩) es.length cap)

/-- Where the objects lie (a row with its capacity), and the blocks that are not to be touched by any data. -/
structure Rho where
  f : Id → Option (Nat × Nat)
  Y : Nat → Prop
instance : CoeFun Rho (fun _ => Id → Option (Nat × Nat)) := ⟨Rho.f⟩
abbrev Obs := Id → Option O

def live : O → Bool
  | .fro .. => false
  | .dead => false
  | _ => true
def held : O → Bool
  | .dead => false
  | _ => true

/-- The blocks that may still be written. -/
def XL (ρ : Rho) (ob : Obs) (b : Nat) : Prop := ∃ id o c, ob id = some o ∧ live o = true ∧ ρ id = some (b, c)
/-- .. and those that no data may lie in. -/
def XOf (ρ : Rho) (ob : Obs) (b : Nat) : Prop := XL ρ ob b ∨ ρ.Y b

def rowO (ob : Obs) (id : Id) : Option (Nat × Row) :=
  match ob id with
  | some (.row sz es) => some (sz, es)
  | some (.fro sz es) => some (sz, es)
  | _ => none

def SlAt (ρ : Rho) (id : Id) (sz off len : Nat) (v : Value) : Prop :=
  match ρ id with
  | none => ∃ a, v = .slice a 0 0
  | some (b, cap) => (off = 0 → v = .slice (some ⟨b, 0, none⟩) len cap) ∧ (off ≠ 0 → len ≠ 0 → v = .slice (some ⟨b, off * sz, none⟩) len (cap - off))

def RepC0 (w : World) (ρ : Rho) (ob : Obs) : C → Value → Prop
  | .any, v => v.oneCell' = true
  | .d x, v => RepD w (XOf ρ ob) x v
  | .nils, v => ∃ a, v = .slice a 0 0
  | .sl id off len, v => (ob id).isSome = true ∧ (∃ a c, v = .slice a len c) ∧ ∀ sz es, rowO ob id = some (sz, es) → SlAt ρ id sz off len v
  | .ptr id off, v => (ob id).isSome = true ∧ ∃ b c, ρ id = some (b, c) ∧ v = .pointer (some ⟨b, off, none⟩)
  | .map id, v => (ob id).isSome = true ∧ ∃ b c, ρ id = some (b, c) ∧ v = .map (some b)
  | .itr id, v => (ob id).isSome = true ∧ ∃ b c, ρ id = some (b, c) ∧ v = .pointer (some ⟨b, 0, none⟩)
  | .fn _ _, _ => False

/-- Two lists agree place by place. -/
def All2 {α β : Type} (R : α → β → Prop) (xs : List α) (ys : List β) : Prop := xs.length = ys.length ∧ ∀ (i : Nat) x y, xs[i]? = some x → ys[i]? = some y → R x y

def RepC (F : List (Nat × Nat)) (w : World) (ρ : Rho) (ob : Obs) : C → Value → Prop
  | .fn f caps, v => ∃ f' vs, lookN f' F = some f ∧ v = .func (.func f') #[] vs ∧ All2 (RepC0 w ρ ob) caps vs.toList
  | x, v => RepC0 w ρ ob x v

def RepV (F : List (Nat × Nat)) (w : World) (ρ : Rho) (ob : Obs) : V → Value → Prop
  | .c x, v => RepC F w ρ ob x v
  | .agg cs, v => ∃ arr, v = .agg arr ∧ All2 (RepC F w ρ ob) cs arr.toList

def RepAV (F : List (Nat × Nat)) (w : World) (ρ : Rho) (ob : Obs) : AV → Value → Prop
  | .any, _ => True
  | .un, v => v = undef
  | .v x, v => RepV F w ρ ob x v
  | .sptr e off, v => ∃ b o, v = .pointer (some ⟨b, o + off, none⟩) ∧ ¬ XOf ρ ob b ∧ b < w.heap.size ∧
      ∀ (j : Nat) d, e[j]? = some d → ∃ u, w.cell? ⟨b, o + j, none⟩ = some u ∧ RepD w (XOf ρ ob) d u
  | .rptr id i off, v => (ob id).isSome = true ∧ ∀ sz es, rowO ob id = some (sz, es) → ∃ b c, ρ id = some (b, c) ∧ v = .pointer (some ⟨b, i * sz + off, none⟩)
  | .tup vs, v => ∃ arr, v = .tuple arr ∧ ∀ (i : Nat) x, vs[i]? = some x → ∃ u, arr[i]? = some u ∧ RepV F w ρ ob x u

def RepDV (w : World) (X : Nat → Prop) : DV → Value → Prop
  | .c x, v => RepD w X x v
  | .agg ds, v => ∃ arr, v = .agg arr ∧ All2 (RepD w X) ds arr.toList

def RepKV (w : World) (X : Nat → Prop) (kv : DV × DV) (e : MapEntry) : Prop := RepDV w X kv.1 e.key ∧ RepDV w X kv.2 e.val

def RepRow (w : World) (ρ : Rho) (ob : Obs) (id : Id) (sz : Nat) (es : Row) : Prop :=
  (∀ e ∈ es, e.length = sz) ∧
  ((ρ id = none ∧ es = []) ∨
   ∃ b cap cur ty, ρ id = some (b, cap) ∧ w.heap[b]? = some (.cells cur ty (0, 0)) ∧ cur.size = cap * sz ∧ es.length ≤ cap ∧ cap ≤ maxLen ∧ 0 < sz ∧
     ∀ (i j : Nat) e d, es[i]? = some e → e[j]? = some d → ∃ v, cur[i * sz + j]? = some v ∧ RepD w (XOf ρ ob) d v)

def RepMap (w : World) (ρ : Rho) (ob : Obs) (id : Id) (kvs : KVs) : Prop :=
  ∃ b c ents clock, ρ id = some (b, c) ∧ w.heap[b]? = some (.map ents clock) ∧ All2 (RepKV w (XOf ρ ob)) kvs ents.toList ∧
    (∀ e ∈ ents.toList, e.born < clock) ∧ (ents.toList.map (·.born)).Pairwise (· < ·)

def RepO (F : List (Nat × Nat)) (w : World) (ρ : Rho) (ob : Obs) (id : Id) : O → Prop
  | .box cs => ∃ b c cur ty, ρ id = some (b, c) ∧ w.heap[b]? = some (.cells cur ty (0, 0)) ∧ All2 (RepC F w ρ ob) cs cur.toList
  | .row sz es => RepRow w ρ ob id sz es
  | .fro sz es => RepRow w ρ ob id sz es
  | .map kvs => RepMap w ρ ob id kvs
  | .lock kvs => RepMap w ρ ob id kvs
  | .iter m left cur => ∃ b c mb cm ents clock seen, ρ id = some (b, c) ∧ ρ m = some (mb, cm) ∧ (∃ kvs, ob m = some (.lock kvs)) ∧ w.heap[mb]? = some (.map ents clock) ∧
      w.heap[b]? = some (.mapIter (some mb) clock seen clock) ∧
      All2 (RepKV w (XOf ρ ob)) left (ents.toList.filter fun e => !seen.contains e.born) ∧
      (∀ kv, cur = some kv → ∃ e ∈ ents.toList, seen.back? = some e.born ∧ RepKV w (XOf ρ ob) kv e)
  | .dead => True

structure HRel (F : List (Nat × Nat)) (w : World) (ρ : Rho) (ob : Obs) : Prop where
  objs : ∀ id o, ob id = some o → RepO F w ρ ob id o
  inj : ∀ id id' o o' b c c', ob id = some o → live o = true → ob id' = some o' → held o' = true → ρ id = some (b, c) → ρ id' = some (b, c') → id = id'
  y : ∀ id o b c, ob id = some o → held o = true → ρ id = some (b, c) → ¬ ρ.Y b
  yb : ∀ b, ρ.Y b → b < w.heap.size

/-- What a step may do, so that what stood for something stands for it still. -/
structure Step (w : World) (ρ : Rho) (ob : Obs) (w' : World) (ρ' : Rho) (ob' : Obs) : Prop where
  size : w.heap.size ≤ w'.heap.size
  keep : ∀ b, b < w.heap.size → ¬ XL ρ ob b → w'.heap[b]? = w.heap[b]?
  xl : ∀ b, b < w.heap.size → XL ρ' ob' b → XL ρ ob b
  rho : ∀ id, (ob id).isSome = true → ρ' id = ρ id
  dom : ∀ id, (ob id).isSome = true → (ob' id).isSome = true
  row : ∀ id sz es, (ob id).isSome = true → rowO ob' id = some (sz, es) → ∃ es0, rowO ob id = some (sz, es0)
  yy : ρ'.Y = ρ.Y

section
variable {F : List (Nat × Nat)} {w w' : World} {ρ ρ' : Rho} {ob ob' : Obs}

theorem RepD.mono {X X' : Nat → Prop} {d : D} {v : Value} (h : RepD w X d v) (hs : w.heap.size ≤ w'.heap.size)
    (hk : ∀ b, b < w.heap.size → ¬ X b → w'.heap[b]? = w.heap[b]?) (hx : ∀ b, b < w.heap.size → X' b → X b) : RepD w' X' d v := by
  induction h with
  | int k n => exact .int k n
  | bool b => exact .bool b
  | str s b h => exact .str s b h
  | np => exact .np
  | nm => exact .nm
  | nf => exact .nf
  | vec0 a c => exact .vec0 a c
  | vec es b off sz cap f hX hb hl hsz hc _ ih =>
    refine .vec es b off sz cap f (fun h => hX (hx b hb h)) (Nat.lt_of_lt_of_le hb hs) hl hsz (fun i j e d he hd => ?_) ih
    rw [← hc i j e d he hd]
    exact World.cell?_of_block (hk b hb hX)

theorem Step.xs (st : Step w ρ ob w' ρ' ob') (b : Nat) (hb : b < w.heap.size) (h : XOf ρ' ob' b) : XOf ρ ob b :=
  h.elim (fun h => .inl (st.xl b hb h)) (fun h => .inr (by rw [← st.yy]; exact h))

theorem Step.repD (st : Step w ρ ob w' ρ' ob') {d : D} {v : Value} (h : RepD w (XOf ρ ob) d v) : RepD w' (XOf ρ' ob') d v :=
  h.mono st.size (fun b hb hx => st.keep b hb fun h => hx (.inl h)) st.xs

theorem All2.imp {α β : Type} {R S : α → β → Prop} {xs : List α} {ys : List β} (h : All2 R xs ys) (hi : ∀ x y, R x y → S x y) : All2 S xs ys :=
  ⟨h.1, fun i x y hx hy => hi x y (h.2 i x y hx hy)⟩

theorem Step.repC0 (st : Step w ρ ob w' ρ' ob') {c : C} {v : Value} (h : RepC0 w ρ ob c v) : RepC0 w' ρ' ob' c v := by
  cases c with
  | any => exact h
  | d x => exact st.repD h
  | nils => exact h
  | sl id off len =>
    obtain ⟨h1, h2, h3⟩ := h
    refine ⟨st.dom id h1, h2, fun sz es he => ?_⟩
    obtain ⟨es0, he0⟩ := st.row id sz es h1 he
    have := h3 sz es0 he0
    simp only [SlAt, st.rho id h1] at this ⊢
    exact this
  | ptr id off => exact ⟨st.dom id h.1, by rw [st.rho id h.1]; exact h.2⟩
  | map id => exact ⟨st.dom id h.1, by rw [st.rho id h.1]; exact h.2⟩
  | itr id => exact ⟨st.dom id h.1, by rw [st.rho id h.1]; exact h.2⟩
  | fn f caps => exact h.elim

theorem Step.repC (st : Step w ρ ob w' ρ' ob') {c : C} {v : Value} (h : RepC F w ρ ob c v) : RepC F w' ρ' ob' c v := by
  cases c with
  | fn f caps =>
    obtain ⟨f', vs, h1, h2, h3⟩ := h
    exact ⟨f', vs, h1, h2, h3.imp fun x y hxy => st.repC0 hxy⟩
  | any => exact st.repC0 (c := .any) h
  | d x => exact st.repC0 (c := .d x) h
  | nils => exact st.repC0 (c := .nils) h
  | sl id off len => exact st.repC0 (c := .sl id off len) h
  | ptr id off => exact st.repC0 (c := .ptr id off) h
  | map id => exact st.repC0 (c := .map id) h
  | itr id => exact st.repC0 (c := .itr id) h

theorem Step.repV (st : Step w ρ ob w' ρ' ob') {x : V} {v : Value} (h : RepV F w ρ ob x v) : RepV F w' ρ' ob' x v := by
  cases x with
  | c x => exact st.repC h
  | agg cs =>
    obtain ⟨arr, h1, h2⟩ := h
    exact ⟨arr, h1, h2.imp fun x y hxy => st.repC hxy⟩

theorem Step.repAV (st : Step w ρ ob w' ρ' ob') {x : AV} {v : Value} (h : RepAV F w ρ ob x v) : RepAV F w' ρ' ob' x v := by
  cases x with
  | any => trivial
  | un => exact h
  | v x => exact st.repV h
  | sptr e off =>
    obtain ⟨b, o, h1, h2, h3, h4⟩ := h
    refine ⟨b, o, h1, fun hx => h2 (st.xs b h3 hx), Nat.lt_of_lt_of_le h3 st.size, fun j d hd => ?_⟩
    obtain ⟨u, hu, hr⟩ := h4 j d hd
    exact ⟨u, by rw [← hu]; exact World.cell?_of_block (st.keep b h3 fun h => h2 (.inl h)), st.repD hr⟩
  | rptr id i off =>
    refine ⟨st.dom id h.1, fun sz es he => ?_⟩
    obtain ⟨es0, he0⟩ := st.row id sz es h.1 he
    rw [st.rho id h.1]
    exact h.2 sz es0 he0
  | tup vs =>
    obtain ⟨arr, h1, h2⟩ := h
    exact ⟨arr, h1, fun i x hx => let ⟨u, hu, hr⟩ := h2 i x hx; ⟨u, hu, st.repV hr⟩⟩

theorem Step.repDV (st : Step w ρ ob w' ρ' ob') {x : DV} {v : Value} (h : RepDV w (XOf ρ ob) x v) : RepDV w' (XOf ρ' ob') x v := by
  cases x with
  | c x => exact st.repD h
  | agg ds =>
    obtain ⟨arr, h1, h2⟩ := h
    exact ⟨arr, h1, h2.imp fun x y hxy => st.repD hxy⟩

theorem Step.repKV (st : Step w ρ ob w' ρ' ob') {x : DV × DV} {e : MapEntry} (h : RepKV w (XOf ρ ob) x e) : RepKV w' (XOf ρ' ob') x e :=
  ⟨st.repDV h.1, st.repDV h.2⟩

theorem Step.refl (w : World) (ρ : Rho) (ob : Obs) : Step w ρ ob w ρ ob :=
  ⟨Nat.le_refl _, fun _ _ _ => rfl, fun _ _ h => h, fun _ _ => rfl, fun _ h => h, fun _ _ es _ h => ⟨es, h⟩, rfl⟩

theorem Step.trans {w'' : World} {ρ'' : Rho} {ob'' : Obs} (s : Step w ρ ob w' ρ' ob') (t : Step w' ρ' ob' w'' ρ'' ob'') : Step w ρ ob w'' ρ'' ob'' :=
  ⟨Nat.le_trans s.size t.size,
   fun b hb hx => (t.keep b (Nat.lt_of_lt_of_le hb s.size) fun h => hx (s.xl b hb h)).trans (s.keep b hb hx),
   fun b hb hx => s.xl b hb (t.xl b (Nat.lt_of_lt_of_le hb s.size) hx),
   fun id h => (t.rho id (s.dom id h)).trans (s.rho id h), fun id h => t.dom id (s.dom id h),
   fun id sz es h he => let ⟨e1, h1⟩ := t.row id sz es (s.dom id h) he; s.row id sz e1 h h1, t.yy.trans s.yy⟩

/-- An object whose blocks are as they were. -/
theorem Step.repO (st : Step w ρ ob w' ρ' ob') {id : Id} {o : O} (hid : ob id = some o) (h : RepO F w ρ ob id o)
    (hb : ∀ b c, ρ id = some (b, c) → w'.heap[b]? = w.heap[b]?)
    (hm : ∀ m left cur b c, o = .iter m left cur → ρ m = some (b, c) → w'.heap[b]? = w.heap[b]?)
    (hl : ∀ m left cur kvs, o = .iter m left cur → ob m = some (.lock kvs) → ob' m = some (.lock kvs)) : RepO F w' ρ' ob' id o := by
  have hr : ρ' id = ρ id := st.rho id (by rw [hid]; rfl)
  have row : ∀ sz es, RepRow w ρ ob id sz es → RepRow w' ρ' ob' id sz es := by
    rintro sz es ⟨h0, h⟩
    refine ⟨h0, ?_⟩
    rcases h with ⟨h1, h2⟩ | ⟨b, cap, cur, ty, h1, h2, h3, h4, h5, h6, h7⟩
    · exact .inl ⟨hr.trans h1, h2⟩
    · exact .inr ⟨b, cap, cur, ty, hr.trans h1, (hb b cap h1).trans h2, h3, h4, h5, h6, fun i j e d he hd => let ⟨v, hv, hd'⟩ := h7 i j e d he hd; ⟨v, hv, st.repD hd'⟩⟩
  have mp : ∀ kvs, RepMap w ρ ob id kvs → RepMap w' ρ' ob' id kvs := by
    rintro kvs ⟨b, c, ents, clock, h1, h2, h3, h4⟩
    exact ⟨b, c, ents, clock, hr.trans h1, (hb b c h1).trans h2, h3.imp fun x y hxy => st.repKV hxy, h4⟩
  cases o with
  | box cs =>
    obtain ⟨b, c, cur, ty, h1, h2, h3⟩ := h
    exact ⟨b, c, cur, ty, hr.trans h1, (hb b c h1).trans h2, h3.imp fun x y hxy => st.repC hxy⟩
  | row sz es => exact row sz es h
  | fro sz es => exact row sz es h
  | map kvs => exact mp kvs h
  | lock kvs => exact mp kvs h
  | iter m left cur =>
    obtain ⟨b, c, mb, cm, ents, clock, seen, h1, h2, ⟨kvs, h3⟩, h4, h5, h6, h7⟩ := h
    have hrm : ρ' m = ρ m := st.rho m (by rw [h3]; rfl)
    refine ⟨b, c, mb, cm, ents, clock, seen, hr.trans h1, hrm.trans h2, ⟨kvs, hl m left cur kvs rfl h3⟩, (hm m left cur mb cm rfl h2).trans h4, (hb b c h1).trans h5,
      h6.imp fun x y hxy => st.repKV hxy, fun kv hkv => ?_⟩
    obtain ⟨e, he, hs, hr⟩ := h7 kv hkv
    exact ⟨e, he, hs, st.repKV hr⟩
  | dead => trivial
end

end Go.Aiv

namespace Go.Aiv

section
variable {F : List (Nat × Nat)} {w : World} {ρ : Rho} {ob : Obs} {P : Program}

theorem getElem?_lt {α : Type} {l : List α} {i : Nat} {x : α} (h : l[i]? = some x) : i < l.length := by
  rcases Nat.lt_or_ge i l.length with h' | h'
  · exact h'
  · rw [List.getElem?_eq_none h'] at h; cases h

theorem mapO_some {α β : Type} {f : α → Option β} : ∀ {xs : List α} {ys : List β}, mapO f xs = some ys →
    xs.length = ys.length ∧ ∀ (i : Nat) (x : α), xs[i]? = some x → ∃ y, ys[i]? = some y ∧ f x = some y
  | [], ys, h => by simp [mapO] at h; subst h; simp
  | a :: r, ys, h => by
    simp only [mapO] at h
    cases hf : f a with
    | none => simp [hf] at h
    | some b =>
      simp only [hf] at h
      cases hr : mapO f r with
      | none => simp [hr] at h
      | some bs =>
        simp only [hr, Option.some.injEq] at h
        subst h
        obtain ⟨h1, h2⟩ := mapO_some hr
        refine ⟨by simp [h1], fun i x hx => ?_⟩
        cases i with
        | zero => simp at hx; subst hx; exact ⟨b, by simp, hf⟩
        | succ i => simpa using h2 i x (by simpa using hx)

theorem mapO_some' {α β : Type} {f : α → Option β} {xs : List α} {ys : List β} (h : mapO f xs = some ys) (i : Nat) (y : β) (hy : ys[i]? = some y) :
    ∃ x, xs[i]? = some x ∧ f x = some y := by
  obtain ⟨h1, h2⟩ := mapO_some h
  have hi := getElem?_lt hy
  obtain ⟨x, hx⟩ : ∃ x, xs[i]? = some x := ⟨xs[i]'(by omega), List.getElem?_eq_getElem _⟩
  obtain ⟨y', hy', hf⟩ := h2 i x hx
  rw [hy] at hy'; cases hy'
  exact ⟨x, hx, hf⟩

theorem All2.get {α β : Type} {R : α → β → Prop} {xs : List α} {ys : List β} (h : All2 R xs ys) {i : Nat} {x : α} (hx : xs[i]? = some x) : ∃ y, ys[i]? = some y ∧ R x y := by
  have hi := getElem?_lt hx
  have : ys[i]? = some (ys[i]'(by have := h.1; omega)) := List.getElem?_eq_getElem _
  exact ⟨_, this, h.2 i x _ hx this⟩

theorem All2.take {α β : Type} {R : α → β → Prop} {xs : List α} {ys : List β} (h : All2 R xs ys) (n : Nat) : All2 R (xs.take n) (ys.take n) :=
  ⟨by simp [h.1], fun i x y hx hy => by
    rw [List.getElem?_take] at hx hy
    split at hx
    · rename_i hi; rw [if_pos hi] at hy; exact h.2 i x y hx hy
    · cases hx⟩

theorem All2.drop {α β : Type} {R : α → β → Prop} {xs : List α} {ys : List β} (h : All2 R xs ys) (n : Nat) : All2 R (xs.drop n) (ys.drop n) :=
  ⟨by simp [h.1], fun i x y hx hy => by
    rw [List.getElem?_drop] at hx hy
    exact h.2 (n + i) x y hx hy⟩

theorem All2.append {α β : Type} {R : α → β → Prop} {xs xs' : List α} {ys ys' : List β} (h : All2 R xs ys) (h' : All2 R xs' ys') : All2 R (xs ++ xs') (ys ++ ys') :=
  ⟨by simp [h.1, h'.1], fun i x y hx hy => by
    rw [List.getElem?_append] at hx hy
    have := h.1
    split at hx
    · rename_i hi; rw [if_pos (by omega)] at hy; exact h.2 i x y hx hy
    · rename_i hi; rw [if_neg (by omega)] at hy; rw [this] at hx; exact h'.2 _ x y hx hy⟩

theorem All2.nil {α β : Type} {R : α → β → Prop} : All2 R [] [] := ⟨rfl, fun i x y hx => by simp at hx⟩

theorem All2.cons {α β : Type} {R : α → β → Prop} {x : α} {y : β} {xs : List α} {ys : List β} (h : R x y) (h' : All2 R xs ys) : All2 R (x :: xs) (y :: ys) :=
  ⟨by simp [h'.1], fun i a b ha hb => by
    cases i with
    | zero => simp at ha hb; subst ha; subst hb; exact h
    | succ i => exact h'.2 i a b (by simpa using ha) (by simpa using hb)⟩

theorem RepD.oneCell {X : Nat → Prop} {d : D} {v : Value} (h : RepD w X d v) : v.oneCell' = true := by cases h <;> rfl

theorem RepC0.oneCell {c : C} {v : Value} (h : RepC0 w ρ ob c v) : v.oneCell' = true := by
  cases c with
  | any => exact h
  | d x => exact RepD.oneCell h
  | nils => obtain ⟨a, rfl⟩ := h; rfl
  | sl id off len => obtain ⟨_, ⟨a, c, rfl⟩, _⟩ := h; rfl
  | ptr id off => obtain ⟨_, b, c, _, rfl⟩ := h; rfl
  | map id => obtain ⟨_, b, c, _, rfl⟩ := h; rfl
  | itr id => obtain ⟨_, b, c, _, rfl⟩ := h; rfl
  | fn f caps => exact h.elim

theorem RepC.oneCell {c : C} {v : Value} (h : RepC F w ρ ob c v) : v.oneCell' = true := by
  cases c with
  | fn f caps => obtain ⟨f', vs, _, rfl, _⟩ := h; rfl
  | any => exact RepC0.oneCell (w := w) (ρ := ρ) (ob := ob) (c := .any) h
  | d x => exact RepC0.oneCell (w := w) (ρ := ρ) (ob := ob) (c := .d x) h
  | nils => exact RepC0.oneCell (w := w) (ρ := ρ) (ob := ob) (c := .nils) h
  | sl id off len => exact RepC0.oneCell (w := w) (ρ := ρ) (ob := ob) (c := .sl id off len) h
  | ptr id off => exact RepC0.oneCell (w := w) (ρ := ρ) (ob := ob) (c := .ptr id off) h
  | map id => exact RepC0.oneCell (w := w) (ρ := ρ) (ob := ob) (c := .map id) h
  | itr id => exact RepC0.oneCell (w := w) (ρ := ρ) (ob := ob) (c := .itr id) h

theorem cells_of_one {v : Value} (h : v.oneCell' = true) : v.cells = #[v] := by cases v <;> first | rfl | cases h

/-- The cells of a value. -/
theorem RepV.cells {x : V} {v : Value} (h : RepV F w ρ ob x v) : All2 (RepC F w ρ ob) x.cells v.cells.toList := by
  cases x with
  | c x =>
    have h' : RepC F w ρ ob x v := h
    rw [cells_of_one h'.oneCell]
    exact All2.cons h' All2.nil
  | agg cs => obtain ⟨arr, rfl, h2⟩ := h; exact h2

theorem RepV.size {x : V} {v : Value} (h : RepV F w ρ ob x v) : v.cells.size = x.cells.length := by
  have := h.cells.1; simp at this; omega

theorem constC_rep {v : Value} {c : C} (h : constC v = some c) : RepC F w ρ ob c v := by
  unfold constC at h
  split at h <;> cases h
  · exact .int _ _
  · exact .bool _
  · exact .str _ _ rfl
  · exact ⟨none, rfl⟩
  · exact .nm
  · exact .np
  · exact .nf

theorem constV_rep {v : Value} {x : V} (h : constV v = some x) : RepV F w ρ ob x v := by
  unfold constV at h
  split at h
  · rename_i cs
    cases hm : mapO constC cs.toList with
    | none => simp [hm] at h
    | some l =>
      simp only [hm, Option.map_some, Option.some.injEq] at h
      subst h
      obtain ⟨h1, _⟩ := mapO_some hm
      refine ⟨cs, rfl, ⟨h1.symm, fun i c u hc hu => ?_⟩⟩
      obtain ⟨u', hu', hf⟩ := mapO_some' hm i c hc
      rw [hu] at hu'; cases hu'
      exact constC_rep hf
  · cases hc : constC v with
    | none => simp [hc] at h
    | some c =>
      simp only [hc, Option.map_some, Option.some.injEq] at h
      subst h
      exact constC_rep hc

def EnvRep (F : List (Nat × Nat)) (w : World) (ρ : Rho) (ob : Obs) (env : List (Nat × AV)) (a : Act) : Prop :=
  ∀ t, RepAV F w ρ ob (get t env) (a.tmps.getD t undef)

theorem opd_rep {K : Cfg} {s : St} {a : Act} {x : Operand} {y : Opd} (he : EnvRep K.fnOf w ρ ob s.env a) (h : cOpd K x = some y) :
    RepAV K.fnOf w ρ ob (s.opd y) (a.eval x) := by
  unfold cOpd at h
  split at h
  · cases h; exact he _
  · rename_i v
    cases hv : constV v with
    | none => simp [hv] at h
    | some u =>
      simp only [hv, Option.map_some, Option.some.injEq] at h
      subst h
      exact constV_rep hv
  · rename_i f
    cases hf : lookN f K.fnOf with
    | none => simp [hf] at h
    | some g =>
      simp only [hf, Option.map_some, Option.some.injEq] at h
      subst h
      exact ⟨f, #[], hf, rfl, All2.nil⟩
  · cases h

theorem repAV_int {k : IntKind} {n : Int} {v : Value} (h : RepAV F w ρ ob (.v (.c (.d (.int k n)))) v) : v = .int k n := by
  have h' : RepD w (XOf ρ ob) (.int k n) v := h
  cases h'; rfl
theorem repAV_bool {b : Bool} {v : Value} (h : RepAV F w ρ ob (.v (.c (.d (.bool b)))) v) : v = .bool b := by
  have h' : RepD w (XOf ρ ob) (.bool b) v := h
  cases h'; rfl
theorem repAV_str {b : List UInt8} {v : Value} (h : RepAV F w ρ ob (.v (.c (.d (.str b)))) v) : ∃ s, v = .string s ∧ s.data.toList = b := by
  have h' : RepD w (XOf ρ ob) (.str b) v := h
  cases h' with | str _ s hs => exact ⟨s, rfl, hs⟩

theorem intOf_some {x : AV} {n : Int} {v : Value} (h : intOf x = some n) (hr : RepAV F w ρ ob x v) : ∃ k, v = .int k n := by
  unfold intOf at h
  split at h
  · cases h; exact ⟨_, repAV_int hr⟩
  · cases h
theorem boolOf_some {x : AV} {b : Bool} {v : Value} (h : boolOf x = some b) (hr : RepAV F w ρ ob x v) : v = .bool b := by
  unfold boolOf at h
  split at h
  · cases h; exact repAV_bool hr
  · cases h
theorem strOf_some {x : AV} {b : List UInt8} {v : Value} (h : strOf x = some b) (hr : RepAV F w ρ ob x v) : ∃ s, v = .string s ∧ s.data.toList = b := by
  unfold strOf at h
  split at h
  · cases h; exact repAV_str hr
  · cases h

theorem rep_d {x : D} {v : Value} (h : RepD w (XOf ρ ob) x v) : RepAV F w ρ ob (.d x) v := h

theorem addr_add (b o n : Nat) : (⟨b, o, none⟩ : Addr).add n = ⟨b, o + n, none⟩ := by unfold Addr.add; split <;> simp_all

theorem aggT_run {t : TypeId} {g : Bool} (h : aggT P t = some g) : (isAgg t).run P w = .ok g w := by
  unfold aggT at h
  split at h <;> first | cases h | skip
  · rename_i fs hu; simp [isAgg, run_underlying hu]
  · rename_i hu; simp [isAgg, run_underlying hu]
  · rename_i d h1 h2 hu
    simp only [isAgg, Sem.run_bind, run_underlying hu, Result.andThen_ok]
    rfl

theorem sizeT_run {t : TypeId} {n : Nat} (h : sizeT P t = some n) : (sizeOf t).run P w = .ok n w := by
  unfold sizeT at h
  cases hi : P.info? t with
  | none => simp [hi] at h
  | some i => simp [hi] at h; simp [sizeOf, typeInfo, hi, h]

theorem loadShape_some {t : TypeId} {g : Bool} {n : Nat} (h : loadShape P t = some (g, n)) : aggT P t = some g ∧ sizeT P t = some n ∧ (g = true ∨ n = 1) := by
  unfold loadShape at h
  split at h
  · rename_i a m h1 h2
    split at h
    · rename_i h3; cases h; exact ⟨h1, h2, h3⟩
    · cases h
  · cases h

/-- Where n cells lie, they are loaded. -/
theorem run_loadAt {t : TypeId} {agg : Bool} {n : Nat} (hl : loadShape P t = some (agg, n)) {b o : Nat} {cs : List C} {x : AV} (hx : ofCells agg cs = some x)
    (hn : cs.length = n) (hc : ∀ (j : Nat) c, cs[j]? = some c → ∃ u, w.cell? ⟨b, o + j, none⟩ = some u ∧ RepC F w ρ ob c u) :
    ∃ v, (Instr.loadAt t (.pointer (some ⟨b, o, none⟩))).run P w = .ok v w ∧ RepAV F w ρ ob x v := by
  obtain ⟨h1, h2, h3⟩ := loadShape_some hl
  cases agg with
  | true =>
    simp only [ofCells, if_true, Option.some.injEq] at hx
    subst hx
    let f : Nat → Value := fun j => (w.cell? ⟨b, o + j, none⟩).getD undef
    have hf : ∀ j, j < n → w.cell? ((⟨b, o, none⟩ : Addr).add j) = some (f j) := by
      intro j hj
      obtain ⟨u, hu, _⟩ := hc j _ (List.getElem?_eq_getElem (by omega))
      rw [addr_add]
      simp only [f, hu, Option.getD_some]
    have hrun := run_loadCells (P := P) w ⟨b, o, none⟩ n f hf
    refine ⟨.agg ((List.range n).map f).toArray, ?_, ?_⟩
    · simp only [Instr.loadAt, Instr.sureAddr, loadVar, Sem.run_bind, Sem.run_pure, Result.andThen_ok, aggT_run h1, sizeT_run h2, hrun, if_true]
    · refine ⟨_, rfl, ⟨by simp [hn], fun j c u hj hu => ?_⟩⟩
      obtain ⟨u', hu', hr⟩ := hc j c hj
      have hjm : j < n := by have := getElem?_lt hj; omega
      simp only [List.getElem?_map, List.getElem?_range hjm, Option.map_some, Option.some.injEq] at hu
      have : u = u' := by rw [← hu]; simp only [f, hu', Option.getD_some]
      rw [this]; exact hr
  | false =>
    simp only [ofCells, Bool.false_eq_true, if_false] at hx
    split at hx
    · rename_i c
      cases hx
      obtain ⟨u, hu, hr⟩ := hc 0 c (by simp)
      refine ⟨u, ?_, hr⟩
      simp only [Instr.loadAt, Instr.sureAddr, loadVar, Sem.run_bind, Sem.run_pure, Result.andThen_ok, aggT_run h1, Bool.false_eq_true, if_false]
      simp only [Nat.add_zero] at hu
      simp [hu]
    · cases hx

theorem takeN_some {α : Type} {off n : Nat} {l r : List α} (h : takeN off n l = some r) : off + n ≤ l.length ∧ r = (l.drop off).take n ∧ r.length = n := by
  unfold takeN at h
  split at h
  · rename_i hle; cases h; exact ⟨hle, rfl, by simp; omega⟩
  · cases h

theorem take_get {α : Type} {off n j : Nat} {l : List α} {x : α} (h : ((l.drop off).take n)[j]? = some x) : l[off + j]? = some x := by
  rw [List.getElem?_take] at h
  split at h
  · rw [List.getElem?_drop] at h; exact h
  · cases h

theorem cell_at {b o : Nat} {cur : Array Value} {ty : TypeId} {fr : Nat × Nat} {v : Value} (hb : w.heap[b]? = some (.cells cur ty fr)) (h : cur[o]? = some v) :
    w.cell? ⟨b, o, none⟩ = some v := by simp [World.cell?, hb, h]

theorem rowOf_rowO {s : St} {id : Id} : s.rowOf id = rowO s.obj? id := rfl

theorem rowO_rep {id : Id} {sz : Nat} {es : Row} (hH : HRel F w ρ ob) (h : rowO ob id = some (sz, es)) : RepRow w ρ ob id sz es := by
  unfold rowO at h
  split at h
  · rename_i ho; cases h; exact hH.objs id _ ho
  · rename_i ho; cases h; exact hH.objs id _ ho
  · cases h

/-- 'load' -/
theorem ev_load {s : St} {t : TypeId} {agg : Bool} {n : Nat} {x : Opd} {va : Value} {r : AV} (hl : loadShape P t = some (agg, n)) (hH : HRel F w ρ s.obj?)
    (hx : RepAV F w ρ s.obj? (s.opd x) va) (h : evQ s (.load agg n x) = some r) : ∃ v, (Instr.loadAt t va).run P w = .ok v w ∧ RepAV F w ρ s.obj? r v := by
  simp only [evQ] at h
  split at h
  · rename_i id off he
    rw [he] at hx
    obtain ⟨_, b, c, hr, rfl⟩ := hx
    split at h
    · rename_i cs ho
      obtain ⟨b', c', cur, ty, hr', hb, hcs⟩ := hH.objs id _ ho
      rw [hr] at hr'; cases hr'
      split at h
      · rename_i rr ht
        obtain ⟨h1, rfl, h3⟩ := takeN_some ht
        refine run_loadAt hl h h3 fun j c hj => ?_
        obtain ⟨u, hu, hrep⟩ := hcs.get (take_get hj)
        exact ⟨u, cell_at hb (by simpa using hu), hrep⟩
      · cases h
    · cases h
  · rename_i e off he
    rw [he] at hx
    obtain ⟨b, o, rfl, _, _, hc⟩ := hx
    split at h
    · rename_i rr ht
      obtain ⟨h1, rfl, h3⟩ := takeN_some ht
      refine run_loadAt hl h (by simp [ofData]; omega) fun j c hj => ?_
      simp only [ofData, List.getElem?_map, Option.map_eq_some_iff] at hj
      obtain ⟨d, hd, rfl⟩ := hj
      obtain ⟨u, hu, hrep⟩ := hc _ d (take_get hd)
      exact ⟨u, by rw [show o + off + j = o + (off + j) by omega]; exact hu, hrep⟩
    · cases h
  · rename_i id i off he
    rw [he] at hx
    split at h
    · rename_i sz es hrow
      obtain ⟨b, c, hr, rfl⟩ := hx.2 sz es hrow
      have hrep := rowO_rep hH hrow
      split at h
      · rename_i e hie
        split at h
        · rename_i rr ht
          obtain ⟨h1, rfl, h3⟩ := takeN_some ht
          obtain ⟨_, hrr⟩ := hrep
          rcases hrr with ⟨hn, _⟩ | ⟨b', cap, cur, ty, hr', hb, _, _, _, _, hcells⟩
          · rw [hr] at hn; cases hn
          · rw [hr] at hr'; cases hr'
            refine run_loadAt hl h (by simp [ofData]; omega) fun j c hj => ?_
            simp only [ofData, List.getElem?_map, Option.map_eq_some_iff] at hj
            obtain ⟨d, hd, rfl⟩ := hj
            obtain ⟨u, hu, hrd⟩ := hcells i (off + j) e d hie (take_get hd)
            exact ⟨u, cell_at hb (by rw [← hu]; congr 1; omega), hrd⟩
        · cases h
      · cases h
    · cases h
  · cases h
end
end Go.Aiv

namespace Go.Aiv

section
variable {F : List (Nat × Nat)} {w : World} {ρ : Rho} {ob : Obs} {P : Program}

theorem toList_data (s : ByteArray) : s.toList = s.data.toList := ByteArray.toList_eq s

theorem beq_str (a b : ByteArray) : (a.toList == b.toList) = (a.data.toList == b.data.toList) := by rw [toList_data, toList_data]

theorem guard_int {op : BinOp} {t : TypeId} {x y : Operand} {k k' : IntKind} {a b : Int} : (eqGuard op t x y (.int k a) (.int k' b)).run P w = .ok () w := by
  unfold eqGuard; split <;> simp
theorem guard_str {op : BinOp} {t : TypeId} {x y : Operand} {a b : ByteArray} : (eqGuard op t x y (.string a) (.string b)).run P w = .ok () w := by
  unfold eqGuard; split <;> simp
theorem guard_bool {op : BinOp} {t : TypeId} {x y : Operand} {a b : Bool} : (eqGuard op t x y (.bool a) (.bool b)).run P w = .ok () w := by
  unfold eqGuard; split <;> simp

theorem run_binInt {op : BinOp} {t : TypeId} {k : IntKind} {a b : Int} {d : D} (h : binInt op k a b = some d) (h1 : op ≠ .shl) (h2 : op ≠ .shr) :
    ∃ v, (binOp op t (.int k a) (.int k b)).run P w = .ok v w ∧ RepD w (XOf ρ ob) d v := by
  cases op <;> simp only [binInt, Option.some.injEq] at h
  case shl => exact (h1 rfl).elim
  case shr => exact (h2 rfl).elim
  case quo =>
    split at h
    · cases h
    · rename_i hb; cases h
      exact ⟨_, by simp [binOp, Op.intDiv, hb], .int _ _⟩
  case rem =>
    split at h
    · cases h
    · rename_i hb; cases h
      exact ⟨_, by simp [binOp, Op.intDiv, hb], .int _ _⟩
  all_goals (subst h; first
    | exact ⟨_, by simp only [binOp, ne_eq, not_true_eq_false, if_false, Op.intArith]; rfl, .int _ _⟩
    | exact ⟨_, by simp only [binOp, ne_eq, not_true_eq_false, if_false]; rfl, .int _ _⟩
    | exact ⟨_, by simp only [binOp, ne_eq, not_true_eq_false, if_false, Op.intCmp]; rfl, .bool _⟩)

theorem run_binStr {op : BinOp} {t : TypeId} {a b : ByteArray} {d : D} (h : binStr op a.data.toList b.data.toList = some d) :
    ∃ v, (binOp op t (.string a) (.string b)).run P w = .ok v w ∧ RepD w (XOf ρ ob) d v := by
  cases op <;> simp only [binStr, Option.some.injEq] at h
  case add =>
    split at h
    · rename_i hl
      cases h
      have hsz : ¬ ((a.size + b.size : Nat) : Int) > IntKind.i64.max := by
        have h1 : a.size = a.data.toList.length := by rw [Array.length_toList]; rfl
        have h2 : b.size = b.data.toList.length := by rw [Array.length_toList]; rfl
        have h3 : IntKind.i64.max = 9223372036854775807 := rfl
        have h4 : maxRow = 4294967296 := rfl
        omega
      refine ⟨.string (a ++ b), ?_, .str _ _ (by simp)⟩
      simp only [binOp, Op.stringOp, if_neg hsz]
      rfl
    · cases h
  all_goals first | (cases h; done) | (subst h; exact ⟨_, by simp only [binOp, Op.stringOp, toList_data]; rfl, .bool _⟩)

/-- 'bin' -/
theorem ev_bin {s : St} {op : BinOp} {t : TypeId} {x y : Opd} {ox oy : Operand} {va vb : Value} {r : AV}
    (hx : RepAV F w ρ ob (s.opd x) va) (hy : RepAV F w ρ ob (s.opd y) vb) (h : evQ s (.bin op x y) = some r) :
    ∃ v, (do eqGuard op t ox oy va vb; binOp op t va vb : Sem Value).run P w = .ok v w ∧ RepAV F w ρ ob r v := by
  simp only [evQ] at h
  unfold binD at h
  split at h
  · rename_i k a k' b h1 h2
    rw [h1] at hx; rw [h2] at hy
    have ha := repAV_int hx
    have hb := repAV_int hy
    subst ha; subst hb
    simp only [Sem.run_bind, guard_int, Result.andThen_ok]
    split at h
    · split at h
      · cases h
      · rename_i hn; cases h
        exact ⟨_, by simp [binOp, Op.shift, hn], .int _ _⟩
    · split at h
      · cases h
      · rename_i hn; cases h
        exact ⟨_, by simp [binOp, Op.shift, hn], .int _ _⟩
    · rename_i hs1 hs2
      split at h
      · rename_i hk
        subst hk
        cases hbi : binInt op k a b with
        | none => simp [hbi] at h
        | some d =>
          simp only [hbi, Option.map_some, Option.some.injEq] at h
          subst h
          exact run_binInt hbi hs1 hs2
      · cases h
  · rename_i a b h1 h2
    rw [h1] at hx; rw [h2] at hy
    obtain ⟨sa, rfl, rfl⟩ := repAV_str hx
    obtain ⟨sb, rfl, rfl⟩ := repAV_str hy
    simp only [Sem.run_bind, guard_str, Result.andThen_ok]
    cases hbi : binStr op sa.data.toList sb.data.toList with
    | none => simp [hbi] at h
    | some d =>
      simp only [hbi, Option.map_some, Option.some.injEq] at h
      subst h
      exact run_binStr hbi
  · cases h

/-- 'beq' -/
theorem ev_beq {s : St} {neg : Bool} {t : TypeId} {x y : Opd} {ox oy : Operand} {va vb : Value} {r : AV} (ht : P.underlying t = some .bool)
    (hx : RepAV F w ρ ob (s.opd x) va) (hy : RepAV F w ρ ob (s.opd y) vb) (h : evQ s (.beq neg x y) = some r) :
    ∃ v, (do eqGuard (if neg then .neq else .eql) t ox oy va vb; binOp (if neg then .neq else .eql) t va vb : Sem Value).run P w = .ok v w ∧ RepAV F w ρ ob r v := by
  simp only [evQ] at h
  split at h
  · rename_i a b h1 h2
    have ha := boolOf_some h1 hx
    have hb := boolOf_some h2 hy
    subst ha; subst hb
    cases h
    simp only [Sem.run_bind, guard_bool, Result.andThen_ok]
    cases neg
    · exact ⟨_, by simpa using run_eql_bool w t a b ht, .bool _⟩
    · refine ⟨_, by simpa using run_neq_bool w t a b ht, ?_⟩
      exact .bool _
  · cases h

/-- 'un' -/
theorem ev_un {s : St} {op : UnOp} {x : Opd} {va : Value} {r : AV} (hx : RepAV F w ρ ob (s.opd x) va) (h : evQ s (.un op x) = some r) :
    ∃ v, (Op.unary op va).run P w = .ok v w ∧ RepAV F w ρ ob r v := by
  simp only [evQ] at h
  split at h
  · rename_i k n h1
    cases h; rw [h1] at hx
    have := repAV_int hx; subst this
    exact ⟨_, by simp [Op.unary, Op.intArith], .int _ _⟩
  · rename_i b h1
    cases h; rw [h1] at hx
    have := repAV_bool hx; subst this
    exact ⟨_, by simp [Op.unary], .bool _⟩
  · cases h

/-- 'faddr' -/
theorem ev_faddr {s : St} {t : TypeId} {fs : Array Field} {fd : Field} {i n : Nat} {x : Opd} {va : Value} {r : AV} (ht : P.underlying t = some (.struct fs)) (hf : fs[i]? = some fd)
    (hs : sizeT P fd.type = some n) (hn : n ≠ 0) (hx : RepAV F w ρ s.obj? (s.opd x) va) (h : evQ s (.faddr fd.offset x) = some r) :
    ∃ v, (Instr.fieldAt t va i).run P w = .ok v w ∧ RepAV F w ρ s.obj? r v := by
  have key : ∀ b o, (Instr.fieldAt t (.pointer (some ⟨b, o, none⟩)) i).run P w = .ok (.pointer (some ⟨b, o + fd.offset, none⟩)) w := by
    intro b o
    simp [Instr.fieldAt, run_underlying ht, hf, Instr.sureAddr, fieldPlace, sizeT_run hs, hn, addr_add]
  simp only [evQ] at h
  split at h
  · rename_i id o h1
    cases h; rw [h1] at hx
    obtain ⟨hi, b, c, hr, rfl⟩ := hx
    exact ⟨_, key b o, hi, b, c, hr, rfl⟩
  · rename_i e o h1
    cases h; rw [h1] at hx
    obtain ⟨b, o', rfl, hrest⟩ := hx
    refine ⟨_, key b (o' + o), b, o', ?_, hrest⟩
    rw [Nat.add_assoc]
  · rename_i id i' o h1
    rw [h1] at hx
    split at h
    · rename_i p hrow
      obtain ⟨sz, es⟩ := p
      cases h
      obtain ⟨hi, hx⟩ := hx
      obtain ⟨b, c, hr, rfl⟩ := hx sz es hrow
      refine ⟨_, key b _, hi, fun sz' es' he => ?_⟩
      rw [rowOf_rowO] at hrow
      rw [hrow] at he; cases he
      exact ⟨b, c, hr, by rw [Nat.add_assoc]⟩
    · cases h
  · cases h
end
end Go.Aiv

namespace Go.Aiv

section
variable {F : List (Nat × Nat)} {w : World} {ρ : Rho} {ob : Obs} {P : Program}

/-- An operand that may be left out. -/
def RepOpt (F : List (Nat × Nat)) (w : World) (ρ : Rho) (ob : Obs) (s : St) : Option Opd → Option Value → Prop
  | none, none => True
  | some x, some v => RepAV F w ρ ob (s.opd x) v
  | _, _ => False

theorem opdO_rep {K : Cfg} {s : St} {a : Act} {x : Option Operand} {y : Option Opd} (he : EnvRep K.fnOf w ρ ob s.env a) (h : cOpdO K x = some y) :
    RepOpt K.fnOf w ρ ob s y (x.map a.eval) := by
  cases x with
  | none => simp only [cOpdO, Option.some.injEq] at h; subst h; trivial
  | some x =>
    simp only [cOpdO] at h
    cases hx : cOpd K x with
    | none => simp [hx] at h
    | some z =>
      simp only [hx, Option.map_some, Option.some.injEq] at h
      subst h
      exact opd_rep he hx

theorem bound_some {y n : Nat} {x : AV} {v : Value} (h : bound y x = some n) (hr : RepAV F w ρ ob x v) : ∃ k i, v = .int k i ∧ 0 ≤ i ∧ i ≤ y ∧ n = i.toNat := by
  unfold bound at h
  split at h
  · rename_i k i
    split at h
    · rename_i hi; cases h
      exact ⟨k, i, repAV_int hr, hi.1, hi.2, rfl⟩
    · cases h
  · cases h

theorem run_bounds {s : St} {isSlice : Bool} {n cap l h : Nat} {lo hi : Option Opd} {vlo vhi : Option Value} (hc : n ≤ cap)
    (hlo : RepOpt F w ρ ob s lo vlo) (hhi : RepOpt F w ρ ob s hi vhi) (h1 : boundO s n n hi = some h) (h2 : boundO s h 0 lo = some l) :
    (Instr.sliceBounds isSlice n cap vlo vhi none).run P w = .ok (l, h, cap) w ∧ l ≤ h ∧ h ≤ n := by
  have low : ∀ hh : Nat, hh = h → ((match vlo with
      | some v => Instr.sliceBound v hh .sliceB
      | none => pure 0 : Sem Nat)).run P w = .ok l w ∧ l ≤ h := by
    rintro hh rfl
    cases lo with
    | none =>
      simp only [boundO, Option.some.injEq] at h2; subst h2
      cases vlo with
      | none => exact ⟨rfl, Nat.zero_le _⟩
      | some v => exact hlo.elim
    | some x =>
      cases vlo with
      | none => exact hlo.elim
      | some v =>
        obtain ⟨k, i, rfl, h0, h1', rfl⟩ := bound_some h2 hlo
        exact ⟨run_sliceBound (P := P) w k i hh .sliceB h0 h1', by omega⟩
  cases hi with
  | none =>
    simp only [boundO, Option.some.injEq] at h1
    subst h1
    cases vhi with
    | some v => exact hhi.elim
    | none =>
      refine ⟨?_, (low _ rfl).2, Nat.le_refl _⟩
      have hl := (low _ rfl).1
      cases vlo with
      | none => simp [Instr.sliceBounds] at hl ⊢; exact hl
      | some v => simp [Instr.sliceBounds] at hl ⊢; simp [hl]
  | some x =>
    cases vhi with
    | none => exact hhi.elim
    | some v =>
      obtain ⟨k, i, rfl, h0, h1', rfl⟩ := bound_some h1 hhi
      have hl := (low _ rfl).1
      refine ⟨?_, (low _ rfl).2, by omega⟩
      have hb : ∀ code, (Instr.sliceBound (.int k i) cap code).run P w = .ok i.toNat w := fun code => run_sliceBound (P := P) w k i cap code h0 (by omega)
      cases vlo with
      | none => simp [Instr.sliceBounds, hb] at hl ⊢; exact hl
      | some v => simp [Instr.sliceBounds, hb] at hl ⊢; simp [hl]

/-- A slice value, by its length and capacity. -/
theorem lenOf_some {s : St} {c : C} {n : Nat} {v : Value} (hH : HRel F w ρ s.obj?) (h : s.lenOf c = some n) (hr : RepC F w ρ s.obj? c v) :
    ∃ a cap, v = .slice a n cap ∧ n ≤ cap := by
  unfold St.lenOf at h
  split at h
  · rename_i es; cases h
    have hr' : RepD w (XOf ρ s.obj?) (.vec es) v := hr
    cases hr' with
    | vec0 a c => exact ⟨a, c, rfl, Nat.zero_le _⟩
    | vec _ b off sz cap f _ _ hl _ _ _ => exact ⟨_, cap, rfl, hl⟩
  · cases h
    obtain ⟨a, rfl⟩ := hr
    exact ⟨a, 0, rfl, Nat.le_refl _⟩
  · rename_i id off len
    split at h
    · rename_i sz es hrow
      split at h
      · rename_i hle; cases h
        obtain ⟨_, ⟨a, c, rfl⟩, h3⟩ := hr
        have h4 := h3 sz es hrow
        have hrep := rowO_rep hH hrow
        simp only [SlAt] at h4
        split at h4
        · obtain ⟨a', h5⟩ := h4
          cases h5
          exact ⟨_, _, rfl, Nat.le_refl _⟩
        · rename_i b cap hρ
          rcases hrep.2 with ⟨hn, _⟩ | ⟨b', cap', cur, ty, hρ', _, _, hlc, _⟩
          · rw [hρ] at hn; cases hn
          · rw [hρ] at hρ'; cases hρ'
            by_cases h0 : off = 0
            · have := h4.1 h0; cases this; exact ⟨_, _, rfl, by omega⟩
            · by_cases hl0 : n = 0
              · exact ⟨_, _, rfl, by omega⟩
              · have := h4.2 h0 hl0; cases this; exact ⟨_, _, rfl, by omega⟩
      · cases h
    · cases h
  · cases h

theorem repD_sub {X : Nat → Prop} {es : Row} {n cap l h : Nat} {a : Option Addr} (hr : RepD w X (.vec es) (.slice a n cap)) (hl : l ≤ h) (hh : h ≤ n) (sz : Nat)
    (hsz : ∀ e ∈ es, e.length = sz) :
    RepD w X (.vec ((es.drop l).take (h - l))) (.slice (if cap = l then a else a.map (·.add (l * sz))) (h - l) (cap - l)) := by
  cases hr with
  | vec0 a c =>
    have : h = 0 := by omega
    subst this
    simp only [Nat.zero_sub, List.drop_nil, List.take_nil]
    exact .vec0 _ _
  | vec _ b off sz' cap f hX hb hlc hsz' hc hd =>
    by_cases h0 : h - l = 0
    · rw [h0, List.take_zero]; exact .vec0 _ _
    · have hne : ¬ cap = l := by omega
      rw [if_neg hne]
      simp only [Option.map_some, addr_add]
      have hes : ∃ e, e ∈ es := ⟨es[0]'(by omega), List.getElem_mem _⟩
      obtain ⟨e0, he0⟩ := hes
      have hszeq : sz' = sz := by rw [← hsz' e0 he0, hsz e0 he0]
      subst hszeq
      have hlen : ((es.drop l).take (h - l)).length = h - l := by simp; omega
      have := RepD.vec (w := w) (X := X) ((es.drop l).take (h - l)) b (off + l * sz') sz' (cap - l) (fun i j => f (l + i) j) hX hb (by omega)
        (fun e he => hsz' e (List.mem_of_mem_drop (List.mem_of_mem_take he)))
        (fun i j e d he hd' => by
          have := hc (l + i) j e d (take_get he) hd'
          rw [← this]; congr 2; rw [Nat.add_mul]; omega)
        (fun i j e d he hd' => hd (l + i) j e d (take_get he) hd')
      rw [hlen] at this
      exact this

theorem run_slice_of {e t : TypeId} {sz n cap l h m : Nat} {a : Option Addr} {vlo vhi vmx : Option Value} (ht : P.underlying t = some (.slice e)) (hs : sizeT P e = some sz)
    (hb : (Instr.sliceBounds true n cap vlo vhi vmx).run P w = .ok (l, h, m) w) :
    (Instr.sliceAt t (.slice a n cap) vlo vhi vmx).run P w = .ok (.slice (if m = l then a else a.map (·.add (l * sz))) (h - l) (m - l)) w := by
  simp only [Instr.sliceAt, Sem.run_bind, run_underlying ht, Result.andThen_ok, Instr.slice, hb, sizeT_run hs, Sem.run_pure]

theorem bound_zero {k : IntKind} {i : Int} {y : Nat} {code : BoundsCode} (h0 : 0 ≤ i) (h1 : i ≤ (0 : Nat)) : (Instr.sliceBound (.int k i) y code).run P w = .ok 0 w := by
  have : i = 0 := by omega
  subst this
  have := run_sliceBound (P := P) w k 0 y code (by omega) (by omega)
  simpa using this

/-- 'vslice' -/
theorem ev_vslice {s : St} {e t : TypeId} {sz : Nat} {x : Opd} {lo hi mx : Option Opd} {va : Value} {vlo vhi vmx : Option Value} {r : AV}
    (ht : P.underlying t = some (.slice e)) (hs : sizeT P e = some sz) (hH : HRel F w ρ s.obj?)
    (hx : RepAV F w ρ s.obj? (s.opd x) va) (hlo : RepOpt F w ρ s.obj? s lo vlo) (hhi : RepOpt F w ρ s.obj? s hi vhi) (hmx : RepOpt F w ρ s.obj? s mx vmx)
    (h : evQ s (.vslice sz x lo hi mx) = some r) : ∃ v, (Instr.sliceAt t va vlo vhi vmx).run P w = .ok v w ∧ RepAV F w ρ s.obj? r v := by
  simp only [evQ] at h
  split at h
  · rename_i c hc
    rw [hc] at hx
    split at h
    · rename_i r' hr
      cases h
      unfold sliceV at hr
      split at hr
      · rename_i n m hn
        obtain ⟨a, cap, rfl, hcap⟩ := lenOf_some hH hn hx
        split at hr
        · rename_i h'
          split at hr
          · rename_i n1 n2 n3 hb1 hb2 hb3
            cases hr
            cases vmx with
            | none => exact hmx.elim
            | some vm =>
              cases vhi with
              | none => exact hhi.elim
              | some vh =>
                obtain ⟨k1, i1, rfl, p1, q1, rfl⟩ := bound_some hb1 hmx
                obtain ⟨k2, i2, rfl, p2, q2, rfl⟩ := bound_some hb2 hhi
                have hbs : (Instr.sliceBounds true n cap vlo (some (.int k2 i2)) (some (.int k1 i1))).run P w = .ok (0, 0, 0) w := by
                  cases lo with
                  | none =>
                    cases vlo with
                    | some v => exact hlo.elim
                    | none => simp [Instr.sliceBounds, bound_zero p1 q1, bound_zero p2 q2]
                  | some xl =>
                    cases vlo with
                    | none => exact hlo.elim
                    | some v =>
                      obtain ⟨k3, i3, rfl, p3, q3, rfl⟩ := bound_some hb3 hlo
                      simp [Instr.sliceBounds, bound_zero p1 q1, bound_zero p2 q2, bound_zero p3 q3]
                refine ⟨_, run_slice_of ht hs hbs, ?_⟩
                exact ⟨a, by simp⟩
          · cases hr
        · cases hr
      · rename_i n hn
        obtain ⟨a, cap, rfl, hcap⟩ := lenOf_some hH hn hx
        cases vmx with
        | some v => exact hmx.elim
        | none =>
          split at hr
          · rename_i h' hb1
            split at hr
            · rename_i l hb2
              obtain ⟨hbs, hl, hh⟩ := run_bounds (P := P) (isSlice := true) hcap hlo hhi hb1 hb2
              refine ⟨_, run_slice_of ht hs hbs, ?_⟩
              unfold sliceC at hr
              split at hr
              · rename_i es
                split at hr
                · rename_i hok
                  cases hr
                  have hx' : RepD w (XOf ρ s.obj?) (.vec es) (.slice a n cap) := hx
                  exact repD_sub hx' hl hh sz fun e he => by
                    have := List.all_eq_true.1 hok e he
                    simpa using this
                · cases hr
              · cases hr
                obtain ⟨a', h5⟩ := hx
                cases h5
                have : h' = 0 := by omega
                subst this
                exact ⟨_, by simp; rfl⟩
              · rename_i id off len
                split at hr
                · rename_i sz' es hrow
                  split at hr
                  · rename_i hsz
                    subst hsz
                    cases hr
                    obtain ⟨h6, _, h7⟩ := hx
                    have hsl := h7 _ _ hrow
                    refine ⟨h6, ⟨_, _, rfl⟩, fun sz2 es2 he2 => ?_⟩
                    rw [rowOf_rowO] at hrow
                    rw [hrow] at he2; cases he2
                    simp only [SlAt] at hsl ⊢
                    split at hsl
                    · obtain ⟨a', h5⟩ := hsl
                      cases h5
                      have : h' = 0 := by omega
                      subst this
                      exact ⟨_, by simp; rfl⟩
                    · rename_i b c hρ
                      by_cases h0 : off = 0
                      · subst h0
                        have h8 := hsl.1 rfl
                        cases h8
                        refine ⟨fun hl0 => ?_, fun hl0 hl1 => ?_⟩
                        · have : l = 0 := by omega
                          subst this
                          simp [addr_add]
                        · rw [if_neg (by omega)]
                          simp [addr_add]
                      · by_cases hn0 : n = 0
                        · exact ⟨fun hl0 => by omega, fun _ hl1 => by omega⟩
                        · have hlen : len = n := by
                            have := hn
                            simp only [St.lenOf, rowOf_rowO, hrow] at this
                            split at this
                            · cases this; rfl
                            · cases this
                          subst hlen
                          have h8 := hsl.2 h0 hn0
                          cases h8
                          refine ⟨fun hl0 => by omega, fun hl0 hl1 => ?_⟩
                          rw [if_neg (by omega)]
                          simp only [Option.map_some, addr_add, Nat.add_mul]
                          congr 1
                          omega
                  · cases hr
                · cases hr
              · cases hr
            · cases hr
          · cases hr
      · cases hr
    · cases h
  · cases h
end
end Go.Aiv

namespace Go.Aiv

section
variable {F : List (Nat × Nat)} {w : World} {ρ : Rho} {ob : Obs} {P : Program}

theorem run_indexAt {e t : TypeId} {sz n cap : Nat} {a : Addr} {k : IntKind} {i : Int} (ht : P.underlying t = some (.slice e)) (hs : sizeT P e = some sz) (h0 : 0 ≤ i) (h1 : i < n) :
    (Instr.indexAt t (.slice (some a) n cap) (.int k i)).run P w = .ok (.pointer (some (a.add (i.toNat * sz)))) w := by
  simp only [Instr.indexAt, asIntOf, Sem.run_bind, Sem.run_pure, Result.andThen_ok, run_underlying ht, h0, h1, and_self, if_true, sizeT_run hs]

/-- 'iaddr' -/
theorem ev_iaddr {s : St} {e t : TypeId} {sz : Nat} {x i : Opd} {va vi : Value} {r : AV} (ht : P.underlying t = some (.slice e)) (hs : sizeT P e = some sz) (hH : HRel F w ρ s.obj?)
    (hx : RepAV F w ρ s.obj? (s.opd x) va) (hi : RepAV F w ρ s.obj? (s.opd i) vi) (h : evQ s (.iaddr sz x i) = some r) :
    ∃ v, (Instr.indexAt t va vi).run P w = .ok v w ∧ RepAV F w ρ s.obj? r v := by
  simp only [evQ] at h
  split at h
  · rename_i es n hc hn
    obtain ⟨k, rfl⟩ := intOf_some hn hi
    rw [hc] at hx
    have hx' : RepD w (XOf ρ s.obj?) (.vec es) va := hx
    split at h
    · rename_i h0
      split at h
      · rename_i el hel
        split at h
        · rename_i hl
          cases h
          have hlt := getElem?_lt hel
          cases hx' with
          | vec0 a c => simp at hlt
          | vec _ b off sz' cap f hX hb hlc hsz' hcl hd =>
            have hszeq : sz' = sz := by rw [← hsz' el (List.mem_of_getElem? hel), hl]
            subst hszeq
            refine ⟨_, run_indexAt ht hs h0 (by omega), b, off + n.toNat * sz', ?_, hX, hb, fun j d hj => ?_⟩
            · rw [addr_add, Nat.add_zero]
            · exact ⟨_, hcl n.toNat j el d hel hj, hd n.toNat j el d hel hj⟩
        · cases h
      · cases h
    · cases h
  · rename_i id off len n hc hn
    obtain ⟨k, rfl⟩ := intOf_some hn hi
    rw [hc] at hx
    split at h
    · rename_i h0
      split at h
      · rename_i sz' es hrow
        split at h
        · rename_i hsz
          subst hsz
          cases h
          obtain ⟨h6, ⟨a, c, rfl⟩, h7⟩ := hx
          have hsl := h7 _ _ hrow
          simp only [SlAt] at hsl
          split at hsl
          · obtain ⟨a', h5⟩ := hsl
            cases h5
            omega
          · rename_i b c' hρ
            have key : ∀ o, Value.slice a len c = .slice (some ⟨b, o, none⟩) len c → o = off * sz' →
                ∃ v, (Instr.indexAt t (.slice a len c) (.int k n)).run P w = .ok v w ∧ RepAV F w ρ s.obj? (.rptr id (off + n.toNat) 0) v := by
              intro o ho ho'
              rw [ho]
              refine ⟨_, run_indexAt ht hs h0.1 h0.2, h6, fun sz2 es2 he2 => ?_⟩
              rw [rowOf_rowO] at hrow
              rw [hrow] at he2; cases he2
              refine ⟨b, c', hρ, ?_⟩
              rw [addr_add, Nat.add_zero, ho', Nat.add_mul]
            by_cases hz : off = 0
            · have h8 := hsl.1 hz
              simp only [Value.slice.injEq] at h8
              obtain ⟨rfl, _, rfl⟩ := h8
              exact key 0 rfl (by simp [hz])
            · have h8 := hsl.2 hz (by omega)
              simp only [Value.slice.injEq] at h8
              obtain ⟨rfl, _, rfl⟩ := h8
              exact key _ rfl rfl
        · cases h
      · cases h
    · cases h
  · cases h

theorem get_data (s : ByteArray) (i : Nat) : s[i]? = s.data.toList[i]? := by
  rw [Array.getElem?_toList]
  by_cases h : i < s.size
  · rw [ByteArray.getElem?_lt' s i h, Array.getElem?_eq_getElem (show i < s.data.size from h)]; rfl
  · rw [ByteArray.getElem?_ge' s i h, Array.getElem?_eq_none (show s.data.size ≤ i from Nat.le_of_not_lt h)]

/-- 'sidx' -/
theorem ev_sidx {s : St} {t : TypeId} {x i : Opd} {va vi : Value} {r : AV} (ht : P.underlying t = some .string)
    (hx : RepAV F w ρ ob (s.opd x) va) (hi : RepAV F w ρ ob (s.opd i) vi) (h : evQ s (.sidx x i) = some r) :
    ∃ v, (Instr.index t va vi).run P w = .ok v w ∧ RepAV F w ρ ob r v := by
  simp only [evQ] at h
  split at h
  · rename_i b n hb hn
    obtain ⟨k, rfl⟩ := intOf_some hn hi
    obtain ⟨sb, rfl, rfl⟩ := strOf_some hb hx
    split at h
    · rename_i h0
      split at h
      · rename_i c hc
        cases h
        refine ⟨.int .u8 c.toNat, ?_, .int _ _⟩
        simp only [Instr.index, asIntOf, Sem.run_bind, Sem.run_pure, Result.andThen_ok, run_underlying ht, h0, if_true, get_data, hc]
      · cases h
    · cases h
  · cases h

theorem size_data (s : ByteArray) : s.size = s.data.toList.length := by rw [Array.length_toList]; rfl

/-- 'sslice' -/
theorem ev_sslice {s : St} {t : TypeId} {x : Opd} {lo hi : Option Opd} {va : Value} {vlo vhi : Option Value} {r : AV} (ht : P.underlying t = some .string)
    (hx : RepAV F w ρ ob (s.opd x) va) (hlo : RepOpt F w ρ ob s lo vlo) (hhi : RepOpt F w ρ ob s hi vhi)
    (h : evQ s (.sslice x lo hi) = some r) : ∃ v, (Instr.sliceAt t va vlo vhi none).run P w = .ok v w ∧ RepAV F w ρ ob r v := by
  simp only [evQ] at h
  split at h
  · rename_i b hb
    obtain ⟨sb, rfl, rfl⟩ := strOf_some hb hx
    rw [← size_data] at h
    split at h
    · rename_i h' hb1
      split at h
      · rename_i l hb2
        cases h
        obtain ⟨hbs, hl, hh⟩ := run_bounds (P := P) (isSlice := false) (Nat.le_refl sb.size) hlo hhi hb1 hb2
        refine ⟨.string (sb.extract l h'), ?_, .str _ _ ?_⟩
        · simp only [Instr.sliceAt, Sem.run_bind, run_underlying ht, Result.andThen_ok, Instr.slice, Option.isSome_none, Bool.false_eq_true, if_false, hbs, Sem.run_pure]
        · have : (ByteArray.mk sb.data).extract l h' = _ := ByteArray.extract_mk sb.data.toList l h'
          have h2 : sb.extract l h' = ByteArray.mk ((sb.data.toList.drop l).take (h' - l)).toArray := by rw [← this]
          rw [h2]
      · cases h
    · cases h
  · cases h

theorem part_run {t : TypeId} {g : Bool} {n off : Nat} {arr : Array Value} {cs r : List C} {x : AV} (hl : loadShape P t = some (g, n)) (hc : All2 (RepC F w ρ ob) cs arr.toList)
    (ht : takeN off n cs = some r) (hx : ofCells g r = some x) : ∃ v, (part t arr off).run P w = .ok v w ∧ RepAV F w ρ ob x v := by
  obtain ⟨h1, h2, h3⟩ := loadShape_some hl
  obtain ⟨h4, rfl, h5⟩ := takeN_some ht
  have hc' : All2 (RepC F w ρ ob) ((cs.drop off).take n) ((arr.toList.drop off).take n) := (hc.drop off).take n
  cases g with
  | true =>
    simp only [ofCells, if_true, Option.some.injEq] at hx
    subst hx
    refine ⟨.agg (arr.extract off (off + n)), ?_, _, rfl, ?_⟩
    · simp only [part, Sem.run_bind, aggT_run h1, Result.andThen_ok, if_true, sizeT_run h2, Sem.run_pure]
    · have : (arr.extract off (off + n)).toList = (arr.toList.drop off).take n := by simp [Array.toList_extract, List.extract_eq_take_drop]
      rw [this]; exact hc'
  | false =>
    simp only [ofCells, Bool.false_eq_true, if_false] at hx
    split at hx
    · rename_i c hcs
      cases hx
      have hg : ((cs.drop off).take n)[0]? = some c := by rw [hcs]; rfl
      obtain ⟨u, hu, hr⟩ := hc'.get hg
      have hu' := take_get hu
      refine ⟨u, ?_, hr⟩
      simp only [Nat.add_zero, Array.getElem?_toList] at hu'
      simp only [part, Sem.run_bind, aggT_run h1, Result.andThen_ok, Bool.false_eq_true, if_false, hu', Sem.run_pure]
    · cases hx

/-- 'field' -/
theorem ev_field {s : St} {t : TypeId} {fs : Array Field} {fd : Field} {i n : Nat} {g : Bool} {x : Opd} {va : Value} {r : AV} (ht : P.underlying t = some (.struct fs)) (hf : fs[i]? = some fd)
    (hl : loadShape P fd.type = some (g, n)) (hx : RepAV F w ρ ob (s.opd x) va) (h : evQ s (.field g fd.offset n x) = some r) :
    ∃ v, (Instr.field t va i).run P w = .ok v w ∧ RepAV F w ρ ob r v := by
  simp only [evQ] at h
  split at h
  · rename_i cs hc
    rw [hc] at hx
    obtain ⟨arr, rfl, hcs⟩ := hx
    split at h
    · rename_i rr htk
      obtain ⟨v, hv, hr⟩ := part_run (P := P) hl hcs htk h
      exact ⟨v, by simp only [Instr.field, Sem.run_bind, run_underlying ht, Result.andThen_ok, hf, asAgg, Sem.run_pure, hv], hr⟩
    · cases h
  · cases h

/-- 'slen' -/
theorem ev_slen {s : St} {t ty : TypeId} {x : Opd} {va : Value} {r : AV} (ht : P.underlying t = some .string)
    (hx : RepAV F w ρ ob (s.opd x) va) (h : evQ s (.slen x) = some r) : ∃ v, (Builtin.len_ #[t] ty #[va]).run P w = .ok v w ∧ RepAV F w ρ ob r v := by
  simp only [evQ] at h
  split at h
  · rename_i b hb
    obtain ⟨sb, rfl, rfl⟩ := strOf_some hb hx
    cases h
    refine ⟨.int .i64 sb.data.toList.length, ?_, .int _ _⟩
    rw [← size_data]
    simp [Builtin.len_, run_underlying ht, goInt]
  · cases h

/-- 'vlen' -/
theorem ev_vlen {s : St} {e t ty : TypeId} {x : Opd} {va : Value} {r : AV} (ht : P.underlying t = some (.slice e))
    (hx : RepAV F w ρ ob (s.opd x) va) (h : evQ s (.vlen x) = some r) : ∃ v, (Builtin.len_ #[t] ty #[va]).run P w = .ok v w ∧ RepAV F w ρ ob r v := by
  have key : ∀ a n c, (Builtin.len_ #[t] ty #[.slice a n c]).run P w = .ok (.int .i64 n) w := by
    intro a n c; simp [Builtin.len_, run_underlying ht, goInt]
  simp only [evQ] at h
  split at h
  · rename_i es hc
    cases h; rw [hc] at hx
    have hx' : RepD w (XOf ρ ob) (.vec es) va := hx
    cases hx' with
    | vec0 a c => exact ⟨_, key _ _ _, .int _ _⟩
    | vec _ b off sz cap f _ _ _ _ _ _ => exact ⟨_, key _ _ _, .int _ _⟩
  · rename_i hc
    cases h; rw [hc] at hx
    obtain ⟨a, rfl⟩ := hx
    exact ⟨_, key _ _ _, .int _ _⟩
  · rename_i id off len hc
    cases h; rw [hc] at hx
    obtain ⟨_, ⟨a, c, rfl⟩, _⟩ := hx
    exact ⟨_, key _ _ _, .int _ _⟩
  · cases h

theorem kvsOf_rep {s : St} {id : Id} {kvs : KVs} (hH : HRel F w ρ s.obj?) (h : s.kvsOf id = some kvs) : RepMap w ρ s.obj? id kvs := by
  unfold St.kvsOf at h
  split at h
  · rename_i ho; cases h; exact hH.objs id _ ho
  · rename_i ho; cases h; exact hH.objs id _ ho
  · cases h

/-- 'mlen' -/
theorem ev_mlen {s : St} {k e t ty : TypeId} {x : Opd} {va : Value} {r : AV} (ht : P.underlying t = some (.map k e)) (hH : HRel F w ρ s.obj?)
    (hx : RepAV F w ρ s.obj? (s.opd x) va) (h : evQ s (.mlen x) = some r) : ∃ v, (Builtin.len_ #[t] ty #[va]).run P w = .ok v w ∧ RepAV F w ρ s.obj? r v := by
  simp only [evQ] at h
  split at h
  · rename_i id hc
    rw [hc] at hx
    split at h
    · rename_i kvs hk
      cases h
      obtain ⟨_, b, c, hρ, rfl⟩ := hx
      obtain ⟨b', c', ents, clock, hρ', hb, hents, _⟩ := kvsOf_rep hH hk
      rw [hρ] at hρ'; cases hρ'
      refine ⟨.int .i64 ents.size, ?_, ?_⟩
      · simp [Builtin.len_, run_underlying ht, goInt, getObj, Sem.run, hb]
      · have : ents.size = kvs.length := by have := hents.1; simp at this; omega
        rw [this]; exact .int _ _
    · cases h
  · rename_i hc
    cases h; rw [hc] at hx
    have hx' : RepD w (XOf ρ s.obj?) .nm va := hx
    cases hx'
    exact ⟨.int .i64 0, by simp [Builtin.len_, run_underlying ht, goInt], .int _ _⟩
  · cases h

/-- 'extract' -/
theorem ev_extract {s : St} {x : Opd} {i : Nat} {va : Value} {r : AV} (hx : RepAV F w ρ ob (s.opd x) va) (h : evQ s (.extract x i) = some r) :
    ∃ v, (Instr.extract va i).run P w = .ok v w ∧ RepAV F w ρ ob r v := by
  simp only [evQ] at h
  split at h
  · rename_i vs hc
    rw [hc] at hx
    obtain ⟨arr, rfl, hvs⟩ := hx
    split at h
    · rename_i v hv
      cases h
      obtain ⟨u, hu, hr⟩ := hvs i v hv
      exact ⟨u, by simp [Instr.extract, hu], hr⟩
    · cases h
  · cases h

/-- 'cint', 'cstr', 'i2s' -/
theorem ev_cint {s : St} {t u : TypeId} {k k0 : IntKind} {x : Opd} {va : Value} {r : AV} (ht : P.underlying t = some (.int k0)) (hu : P.underlying u = some (.int k))
    (hx : RepAV F w ρ ob (s.opd x) va) (h : evQ s (.cint k x) = some r) : ∃ v, (convert t u va).run P w = .ok v w ∧ RepAV F w ρ ob r v := by
  simp only [evQ] at h
  split at h
  · rename_i n hn
    obtain ⟨k', rfl⟩ := intOf_some hn hx
    cases h
    exact ⟨_, by simp [convert, run_underlying ht, run_underlying hu, Conv.intToInt], .int _ _⟩
  · cases h
theorem ev_cstr {s : St} {t u : TypeId} {x : Opd} {va : Value} {r : AV} (ht : P.underlying t = some .string) (hu : P.underlying u = some .string)
    (hx : RepAV F w ρ ob (s.opd x) va) (h : evQ s (.cstr x) = some r) : ∃ v, (convert t u va).run P w = .ok v w ∧ RepAV F w ρ ob r v := by
  simp only [evQ] at h
  split at h
  · rename_i n hn
    obtain ⟨sb, rfl, rfl⟩ := strOf_some hn hx
    cases h
    exact ⟨_, by simp [convert, run_underlying ht, run_underlying hu], .str _ _ rfl⟩
  · cases h

/-- 'pick' -/
theorem ev_pick {s : St} {c x y : Opd} {vc va vb : Value} {r : AV} (hc : RepAV F w ρ ob (s.opd c) vc) (hx : RepAV F w ρ ob (s.opd x) va) (hy : RepAV F w ρ ob (s.opd y) vb)
    (h : evQ s (.pick c x y) = some r) : ∃ v, (do pure (if ← asBool vc then va else vb) : Sem Value).run P w = .ok v w ∧ RepAV F w ρ ob r v := by
  simp only [evQ] at h
  split at h
  · rename_i b hb
    have := boolOf_some hb hc
    subst this
    cases h
    refine ⟨if b then va else vb, by simp [asBool], ?_⟩
    cases b
    · exact hy
    · exact hx
  · cases h
end
end Go.Aiv

namespace Go.Aiv

section
variable {F : List (Nat × Nat)} {w : World} {ρ : Rho} {ob : Obs} {P : Program}

def eqVs : List Kd → List Value → List Value → Option Bool
  | [], [], [] => some true
  | k :: ks, x :: xs, y :: ys => match k, x, y with
    | .int k, .int k1 a, .int k2 b => if k1 = k ∧ k2 = k then match eqVs ks xs ys with
      | some r => some ((a == b) && r)
      | none => none else none
    | .str, .string a, .string b => match eqVs ks xs ys with
      | some r => some ((a.toList == b.toList) && r)
      | none => none
    | .bool, .bool a, .bool b => match eqVs ks xs ys with
      | some r => some ((a == b) && r)
      | none => none
    | _, _, _ => none
  | _, _, _ => none

theorem All2.tail {α β : Type} {R : α → β → Prop} {x : α} {y : β} {xs : List α} {ys : List β} (h : All2 R (x :: xs) (y :: ys)) : All2 R xs ys :=
  ⟨by have := h.1; simpa using this, fun i a b ha hb => h.2 (i + 1) a b (by simpa using ha) (by simpa using hb)⟩
theorem All2.head {α β : Type} {R : α → β → Prop} {x : α} {y : β} {xs : List α} {ys : List β} (h : All2 R (x :: xs) (y :: ys)) : R x y := h.2 0 x y rfl rfl

theorem All2.consL {α β : Type} {R : α → β → Prop} {x : α} {xs : List α} {ys : List β} (h : All2 R (x :: xs) ys) : ∃ y yr, ys = y :: yr ∧ R x y ∧ All2 R xs yr := by
  cases ys with
  | nil => have := h.1; simp at this
  | cons y yr => exact ⟨y, yr, rfl, h.head, h.tail⟩

theorem eqCells_vs : ∀ (ks : List Kd) (xs ys : List C) (vx vy : List Value) (b : Bool), eqCells ks xs ys = some b → All2 (RepC F w ρ ob) xs vx → All2 (RepC F w ρ ob) ys vy →
    eqVs ks vx vy = some b
  | [], xs, ys, vx, vy, b, h, hx, hy => by
    unfold eqCells at h
    split at h
    · cases h
      have h1 : vx = [] := List.eq_nil_of_length_eq_zero hx.1.symm
      have h2 : vy = [] := List.eq_nil_of_length_eq_zero hy.1.symm
      subst h1; subst h2; rfl
    · exfalso; simp_all
    · cases h
  | k :: ks, xs, ys, vx, vy, b, h, hx, hy => by
    unfold eqCells at h
    split at h
    · exfalso; simp_all
    · rename_i k' ks' x xs y ys hk
      cases hk
      obtain ⟨ux, vx', rfl, hux, hx'⟩ := hx.consL
      obtain ⟨uy, vy', rfl, huy, hy'⟩ := hy.consL
      split at h
      · rename_i kk k1 a k2 b'
        split at h
        · rename_i hk
          split at h
          · rename_i r hr
            cases h
            have ih := eqCells_vs ks xs ys vx' vy' r hr hx' hy'
            have e1 : ux = .int k1 a := repAV_int (F := F) (w := w) (ρ := ρ) (ob := ob) hux
            have e2 : uy = .int k2 b' := repAV_int (F := F) (w := w) (ρ := ρ) (ob := ob) huy
            subst e1; subst e2
            simp only [eqVs, hk, and_self, if_true, ih]
          · cases h
        · cases h
      · rename_i a b'
        split at h
        · rename_i r hr
          cases h
          have ih := eqCells_vs ks xs ys vx' vy' r hr hx' hy'
          obtain ⟨sa, rfl, rfl⟩ := repAV_str (F := F) (w := w) (ρ := ρ) (ob := ob) hux
          obtain ⟨sb, rfl, rfl⟩ := repAV_str (F := F) (w := w) (ρ := ρ) (ob := ob) huy
          simp only [eqVs, ih, toList_data]
        · cases h
      · rename_i a b'
        split at h
        · rename_i r hr
          cases h
          have ih := eqCells_vs ks xs ys vx' vy' r hr hx' hy'
          have e1 : ux = .bool a := repAV_bool (F := F) (w := w) (ρ := ρ) (ob := ob) hux
          have e2 : uy = .bool b' := repAV_bool (F := F) (w := w) (ρ := ρ) (ob := ob) huy
          subst e1; subst e2
          simp only [eqVs, ih]
        · cases h
      · cases h
    · cases h

theorem eqVs_length : ∀ (ks : List Kd) (vx vy : List Value) (b : Bool), eqVs ks vx vy = some b → vx.length = ks.length ∧ vy.length = ks.length
  | [], [], [], _, _ => by simp
  | [], [], _ :: _, _, h => by simp [eqVs] at h
  | [], _ :: _, _, _, h => by simp [eqVs] at h
  | _ :: _, [], _, _, h => by simp [eqVs] at h
  | _ :: _, _ :: _, [], _, h => by simp [eqVs] at h
  | k :: ks, x :: vx, y :: vy, b, h => by
    unfold eqVs at h
    have fin : ∀ r, eqVs ks vx vy = some r → (x :: vx).length = (k :: ks).length ∧ (y :: vy).length = (k :: ks).length := fun r hr => by
      have := eqVs_length ks vx vy r hr
      simp [this]
    split at h
    · split at h
      · split at h
        · rename_i r hr; exact fin r hr
        · cases h
      · cases h
    · split at h
      · rename_i r hr; exact fin r hr
      · cases h
    · split at h
      · rename_i r hr; exact fin r hr
      · cases h
    · cases h

theorem eqVs_append : ∀ (k1 k2 : List Kd) (vx vy : List Value) (b : Bool), eqVs (k1 ++ k2) vx vy = some b →
    ∃ b1 b2, eqVs k1 (vx.take k1.length) (vy.take k1.length) = some b1 ∧ eqVs k2 (vx.drop k1.length) (vy.drop k1.length) = some b2 ∧ b = (b1 && b2)
  | [], k2, vx, vy, b, h => ⟨true, b, by simp [eqVs], by simpa using h, by simp⟩
  | k :: k1, k2, [], vy, b, h => by simp [eqVs] at h
  | k :: k1, k2, x :: vx, [], b, h => by simp [eqVs] at h
  | k :: k1, k2, x :: vx, y :: vy, b, h => by
    simp only [List.cons_append] at h
    unfold eqVs at h
    split at h
    · rename_i kk ka a kb b'
      split at h
      · rename_i hk
        split at h
        · rename_i r hr
          cases h
          obtain ⟨b1, b2, e1, e2, rfl⟩ := eqVs_append k1 k2 vx vy r hr
          exact ⟨(a == b') && b1, b2, by simp [eqVs, hk, e1], by simpa using e2, by rw [Bool.and_assoc]⟩
        · cases h
      · cases h
    · rename_i a b'
      split at h
      · rename_i r hr
        cases h
        obtain ⟨b1, b2, e1, e2, rfl⟩ := eqVs_append k1 k2 vx vy r hr
        exact ⟨(a.toList == b'.toList) && b1, b2, by simp [eqVs, e1], by simpa using e2, by rw [Bool.and_assoc]⟩
      · cases h
    · rename_i a b'
      split at h
      · rename_i r hr
        cases h
        obtain ⟨b1, b2, e1, e2, rfl⟩ := eqVs_append k1 k2 vx vy r hr
        exact ⟨(a == b') && b1, b2, by simp [eqVs, e1], by simpa using e2, by rw [Bool.and_assoc]⟩
      · cases h
    · cases h

/-- What a type's value is: cells together, or one. -/
def ShapeV (P : Program) (t : TypeId) (v : Value) : Prop :=
  match aggT P t with
  | some true => ∃ arr, v = .agg arr
  | some false => v.oneCell' = true
  | none => False

theorem flatFs_some {flat : TypeId → Option (List Kd)} : ∀ {fs : List Field} {acc ks : List Kd}, flatFs P flat acc fs = some ks → ∃ more, ks = acc ++ more
  | [], acc, ks, h => by simp [flatFs] at h; subst h; exact ⟨[], by simp⟩
  | f :: r, acc, ks, h => by
    simp only [flatFs] at h
    split at h
    · split at h
      · rename_i k1 hk
        split at h
        · obtain ⟨more, rfl⟩ := flatFs_some h
          exact ⟨k1 ++ more, by simp⟩
        · cases h
      · cases h
    · cases h

theorem part_flat {t : TypeId} {arr : Array Value} {off n : Nat} {ks : List Kd} (d : Nat) (hf : flatT P d t = some ks) (hs : sizeT P t = some ks.length) (hn : off + ks.length ≤ arr.size)
    (hone : ∀ v ∈ arr.toList, v.oneCell' = true) (hn0 : n = ks.length) :
    ∃ v, (part t arr off).run P w = .ok v w ∧ v.cells.toList = (arr.toList.drop off).take n ∧ ShapeV P t v := by
  subst hn0
  cases d with
  | zero => simp [flatT] at hf
  | succ d =>
    simp only [flatT] at hf
    have scalar : aggT P t = some false → ks.length = 1 → ∃ v, (part t arr off).run P w = .ok v w ∧ v.cells.toList = (arr.toList.drop off).take ks.length ∧ ShapeV P t v := by
      intro ha hl
      have hlt : off < arr.size := by omega
      have hv : (arr[off]).oneCell' = true := hone _ (by simp)
      refine ⟨arr[off], ?_, ?_, by simp only [ShapeV, ha]; exact hv⟩
      · simp only [part, Sem.run_bind, aggT_run ha, Result.andThen_ok, Bool.false_eq_true, if_false, Array.getElem?_eq_getElem hlt, Sem.run_pure]
      · rw [cells_of_one hv, hl]
        have : (arr.toList.drop off) = arr.toList[off]'(by simpa using hlt) :: arr.toList.drop (off + 1) := List.drop_eq_getElem_cons (by simpa using hlt)
        rw [this]; simp
    split at hf
    · rename_i k hu; cases hf; exact scalar (by simp [aggT, hu]) rfl
    · rename_i hu; cases hf; exact scalar (by simp [aggT, hu]) rfl
    · rename_i hu; cases hf; exact scalar (by simp [aggT, hu]) rfl
    · rename_i fs hu
      have ha : aggT P t = some true := by simp [aggT, hu]
      refine ⟨.agg (arr.extract off (off + ks.length)), ?_, ?_, by simp only [ShapeV, ha]; exact ⟨_, rfl⟩⟩
      · simp only [part, Sem.run_bind, aggT_run ha, Result.andThen_ok, if_true, sizeT_run hs, Sem.run_pure]
      · simp [Value.cells, Array.toList_extract, List.extract_eq_take_drop]
    · cases hf

theorem eqVs_one {ks : List Kd} {vx vy : List Value} {b : Bool} (h : eqVs ks vx vy = some b) : (∀ v ∈ vx, v.oneCell' = true) ∧ ∀ v ∈ vy, v.oneCell' = true := by
  induction ks generalizing vx vy b with
  | nil =>
    obtain ⟨h1, h2⟩ := eqVs_length _ _ _ _ h
    have e1 : vx = [] := List.eq_nil_of_length_eq_zero h1
    have e2 : vy = [] := List.eq_nil_of_length_eq_zero h2
    subst e1; subst e2; simp
  | cons k ks ih =>
    cases vx with
    | nil => simp [eqVs] at h
    | cons x vx =>
      cases vy with
      | nil => simp [eqVs] at h
      | cons y vy =>
        unfold eqVs at h
        have fin : ∀ r, x.oneCell' = true → y.oneCell' = true → eqVs ks vx vy = some r → (∀ v ∈ x :: vx, v.oneCell' = true) ∧ ∀ v ∈ y :: vy, v.oneCell' = true := by
          intro r h1 h2 hr
          obtain ⟨h3, h4⟩ := ih hr
          exact ⟨by simpa [h1] using h3, by simpa [h2] using h4⟩
        split at h
        · split at h
          · split at h
            · rename_i r hr; exact fin r rfl rfl hr
            · cases h
          · cases h
        · split at h
          · rename_i r hr; exact fin r rfl rfl hr
          · cases h
        · split at h
          · rename_i r hr; exact fin r rfl rfl hr
          · cases h
        · cases h

theorem run_eqFields {d : Nat} {xs ys : Array Value}
    (ih : ∀ t ks vx vy b, flatT P d t = some ks → ShapeV P t vx → ShapeV P t vy → eqVs ks vx.cells.toList vy.cells.toList = some b → (Op.equalIn d t vx vy).run P w = .ok b w) :
    ∀ (fs : List Field) (acc ks : List Kd) (b : Bool), flatFs P (flatT P d) acc fs = some ks → eqVs (ks.drop acc.length) (xs.toList.drop acc.length) (ys.toList.drop acc.length) = some b →
      (∀ v ∈ xs.toList, v.oneCell' = true) → (∀ v ∈ ys.toList, v.oneCell' = true) → acc.length ≤ xs.size → acc.length ≤ ys.size → (Op.eqFields d xs ys fs).run P w = .ok b w
  | [], acc, ks, b, h, he, _, _, _, _ => by
    simp only [flatFs, Option.some.injEq] at h
    subst h
    simp only [List.drop_length] at he
    have h1 := eqVs_length _ _ _ _ he
    have e1 : xs.toList.drop acc.length = [] := List.eq_nil_of_length_eq_zero h1.1
    have e2 : ys.toList.drop acc.length = [] := List.eq_nil_of_length_eq_zero h1.2
    rw [e1, e2] at he
    simp only [eqVs, Option.some.injEq] at he
    subst he
    simp [Op.eqFields]
  | f :: r, acc, ks, b, h, he, hx, hy, lx, ly => by
    simp only [flatFs] at h
    split at h
    · rename_i hno
      split at h
      · rename_i k1 hk
        split at h
        · rename_i hs
          obtain ⟨more, hks⟩ := flatFs_some h
          subst hks
          have hd : ((acc ++ k1) ++ more).drop acc.length = k1 ++ more := by simp
          rw [hd] at he
          obtain ⟨b1, b2, e1, e2, rfl⟩ := eqVs_append _ _ _ _ _ he
          have hl := eqVs_length _ _ _ _ he
          simp only [List.length_drop, Array.length_toList, List.length_append] at hl
          obtain ⟨vx, px, cx, sx⟩ := part_flat (P := P) (w := w) (arr := xs) (off := acc.length) (n := k1.length) d hk hs (by omega) hx rfl
          obtain ⟨vy, py, cy, sy⟩ := part_flat (P := P) (w := w) (arr := ys) (off := acc.length) (n := k1.length) d hk hs (by omega) hy rfl
          have hr := ih f.type k1 vx vy b1 hk sx sy (by rw [cx, cy]; exact e1)
          have hrest := run_eqFields ih r (acc ++ k1) _ b2 h (by
            have : ((acc ++ k1) ++ more).drop (acc ++ k1).length = more := by simp
            rw [this]
            simpa [List.drop_drop] using e2) hx hy (by simp; omega) (by simp; omega)
          simp only [Op.eqFields, hno.1, ne_eq, not_false_eq_true, if_true, Sem.run_bind, hno.2, px, py, Result.andThen_ok, hr]
          cases b1
          · simp
          · simp [hrest]
        · cases h
      · cases h
    · cases h

theorem run_equal_flat : ∀ (d : Nat) (t : TypeId) (ks : List Kd) (vx vy : Value) (b : Bool), flatT P d t = some ks → ShapeV P t vx → ShapeV P t vy →
    eqVs ks vx.cells.toList vy.cells.toList = some b → (Op.equalIn d t vx vy).run P w = .ok b w
  | 0, t, ks, vx, vy, b, h, _, _, _ => by simp [flatT] at h
  | d + 1, t, ks, vx, vy, b, h, sx, sy, he => by
    simp only [flatT] at h
    have one : ∀ v : Value, ShapeV P t v → aggT P t = some false → v.cells = #[v] := fun v hv ha => by simp only [ShapeV, ha] at hv; exact cells_of_one hv
    split at h
    · rename_i k hu
      cases h
      have ha : aggT P t = some false := by simp [aggT, hu]
      rw [one vx sx ha, one vy sy ha] at he
      simp only [eqVs] at he
      split at he
      · rename_i k' k1 a k2 b' hk
        cases hk
        split at he
        · rename_i hkk
          obtain ⟨rfl, rfl⟩ := hkk
          cases he
          simpa using run_equalIn_int w d t _ _ a b' hu
        · cases he
      · rename_i hk; cases hk
      · rename_i hk; cases hk
      · cases he
    · rename_i hu
      cases h
      have ha : aggT P t = some false := by simp [aggT, hu]
      rw [one vx sx ha, one vy sy ha] at he
      simp only [eqVs] at he
      split at he
      · rename_i hk; cases hk
      · rename_i a b' hk
        cases he
        simpa using run_equalIn_string w d t a b' hu
      · rename_i hk; cases hk
      · cases he
    · rename_i hu
      cases h
      have ha : aggT P t = some false := by simp [aggT, hu]
      rw [one vx sx ha, one vy sy ha] at he
      simp only [eqVs] at he
      split at he
      · rename_i hk; cases hk
      · rename_i hk; cases hk
      · rename_i a b' hk
        cases he
        simpa using run_equalIn_bool w d t a b' hu
      · cases he
    · rename_i fs hu
      split at h
      · rename_i hst
        have ha : aggT P t = some true := by simp [aggT, hu]
        simp only [ShapeV, ha] at sx sy
        obtain ⟨xs, rfl⟩ := sx
        obtain ⟨ys, rfl⟩ := sy
        have hfo : P.fieldsOf t = fs := by simp [Program.fieldsOf, hu]
        rw [run_equalIn_struct w d t xs ys (by rw [hfo]; exact hu) hst, hfo]
        have hone := eqVs_one he
        exact run_eqFields (fun t ks vx vy b h1 h2 h3 h4 => run_equal_flat d t ks vx vy b h1 h2 h3 h4) fs.toList [] ks b h (by simpa [Value.cells] using he) hone.1 hone.2 (by simp) (by simp)
      · cases h
    · cases h

/-- 'eqa' -/
theorem ev_eqa {s : St} {neg : Bool} {t : TypeId} {fs : Array Field} {ks : List Kd} {x y : Opd} {ox oy : Operand} {va vb : Value} {r : AV} (hu : P.underlying t = some (.struct fs))
    (hf : flatT P 10000 t = some ks) (hg : P.eqGuardType P.depth t = false)
    (hx : RepAV F w ρ ob (s.opd x) va) (hy : RepAV F w ρ ob (s.opd y) vb) (h : evQ s (.eqa neg ks x y) = some r) :
    ∃ v, (do eqGuard (if neg then .neq else .eql) t ox oy va vb; binOp (if neg then .neq else .eql) t va vb : Sem Value).run P w = .ok v w ∧ RepAV F w ρ ob r v := by
  simp only [evQ] at h
  split at h
  · rename_i xs ys h1 h2
    rw [h1] at hx; rw [h2] at hy
    obtain ⟨ax, rfl, hax⟩ := hx
    obtain ⟨ay, rfl, hay⟩ := hy
    split at h
    · rename_i b hb
      cases h
      have ha : aggT P t = some true := by simp [aggT, hu]
      have hr := run_equal_flat (P := P) (w := w) 10000 t ks (.agg ax) (.agg ay) b hf (by simp only [ShapeV, ha]; exact ⟨_, rfl⟩) (by simp only [ShapeV, ha]; exact ⟨_, rfl⟩)
        (eqCells_vs ks xs ys _ _ b hb hax hay)
      simp only [Sem.run_bind, run_eqGuard_agg w _ t ox oy ax ay hg, Result.andThen_ok]
      cases neg
      · refine ⟨.bool b, ?_, .bool _⟩
        simp only [Bool.false_eq_true, if_false]
        rw [run_eql_struct, hr]; rfl
      · refine ⟨.bool (!b), ?_, .bool _⟩
        simp only [if_true]
        rw [run_neq_struct, hr]; rfl
    · cases h
  · cases h
end
end Go.Aiv

namespace Go.Aiv

section
variable {F : List (Nat × Nat)} {w : World} {ρ : Rho} {ob : Obs} {P : Program}

/-- Where the elements of a slice lie. -/
def Lies (w : World) (X : Nat → Prop) (es : Row) (v : Value) : Prop :=
  ∃ a cap, v = .slice a es.length cap ∧ es.length ≤ cap ∧ (es = [] ∨ ∃ b off sz, a = some ⟨b, off, none⟩ ∧ b < w.heap.size ∧ (∀ e ∈ es, e.length = sz) ∧
    ∀ (i j : Nat) e d, es[i]? = some e → e[j]? = some d → ∃ u, w.cell? ⟨b, off + i * sz + j, none⟩ = some u ∧ RepD w X d u)

theorem lies_data {X : Nat → Prop} {es : Row} {v : Value} (h : RepD w X (.vec es) v) : Lies w X es v := by
  cases h with
  | vec0 a c => exact ⟨a, c, rfl, Nat.zero_le _, .inl rfl⟩
  | vec _ b off sz cap f hX hb hl hsz hc hd =>
    exact ⟨_, cap, rfl, hl, .inr ⟨b, off, sz, rfl, hb, hsz, fun i j e d he hd' => ⟨_, hc i j e d he hd', hd i j e d he hd'⟩⟩⟩

theorem view_lies {s : St} {c : C} {es : Row} {v : Value} (hH : HRel F w ρ s.obj?) (h : s.view c = some es) (hr : RepC F w ρ s.obj? c v) : Lies w (XOf ρ s.obj?) es v := by
  unfold St.view at h
  split at h
  · cases h; exact lies_data hr
  · cases h
    obtain ⟨a, rfl⟩ := hr
    exact ⟨a, 0, rfl, Nat.le_refl _, .inl rfl⟩
  · rename_i id off len
    split at h
    · rename_i sz es0 hrow
      split at h
      · rename_i hle; cases h
        obtain ⟨_, ⟨a, c, rfl⟩, h3⟩ := hr
        have h4 := h3 sz es0 hrow
        have hrep := rowO_rep hH hrow
        have hlen : ((es0.drop off).take len).length = len := by simp; omega
        have key : (len = 0 ∨ ∃ b cap, ρ id = some (b, cap) ∧ a = some ⟨b, off * sz, none⟩ ∧ len ≤ c) := by
          by_cases h0 : len = 0
          · exact .inl h0
          · right
            simp only [SlAt] at h4
            split at h4
            · obtain ⟨a', h5⟩ := h4
              simp only [Value.slice.injEq] at h5
              omega
            · rename_i b cap hρ
              rcases hrep.2 with ⟨hn, _⟩ | ⟨b', cap', cur, ty, hρ', hb, hcs, hlc, _, hpos, hcells⟩
              · rw [hρ] at hn; cases hn
              · rw [hρ] at hρ'; cases hρ'
                by_cases hz : off = 0
                · have := h4.1 hz
                  simp only [Value.slice.injEq] at this
                  exact ⟨b, cap, hρ, by rw [this.1, hz, Nat.zero_mul], by omega⟩
                · have := h4.2 hz h0
                  simp only [Value.slice.injEq] at this
                  exact ⟨b, cap, hρ, this.1, by omega⟩
        refine ⟨a, c, by rw [hlen], by rw [hlen]; rcases key with h | ⟨_, _, _, _, h⟩ <;> omega, ?_⟩
        rcases key with h0 | ⟨b, cap, hρ, ha, hlc⟩
        · left; subst h0; simp
        · right
          rcases hrep.2 with ⟨hn, _⟩ | ⟨b', cap', cur, ty, hρ', hb, hcs, hlc, _, hpos, hcells⟩
          · rw [hρ] at hn; cases hn
          · rw [hρ] at hρ'; cases hρ'
            have hbl : b < w.heap.size := (Array.getElem?_eq_some_iff.1 hb).1
            refine ⟨b, off * sz, sz, ha, hbl, fun e he => hrep.1 e (List.mem_of_mem_drop (List.mem_of_mem_take he)), fun i j e d he hd => ?_⟩
            obtain ⟨u, hu, hrd⟩ := hcells (off + i) j e d (take_get he) hd
            refine ⟨u, cell_at hb ?_, hrd⟩
            rw [← hu, Nat.add_mul]
      · cases h
    · cases h
  · cases h

/-- 'b2s' -/
theorem ev_b2s {s : St} {src dst e : TypeId} {x : Opd} {va : Value} {r : AV} (hs : P.underlying src = some (.slice e)) (he : P.underlying e = some (.int .u8)) (hd : P.underlying dst = some .string)
    (hH : HRel F w ρ s.obj?) (hx : RepAV F w ρ s.obj? (s.opd x) va) (h : evQ s (.b2s x) = some r) : ∃ v, (convert src dst va).run P w = .ok v w ∧ RepAV F w ρ s.obj? r v := by
  simp only [evQ] at h
  split at h
  · rename_i c hc
    rw [hc] at hx
    split at h
    · rename_i es hv
      obtain ⟨a, cap, rfl, _, hl⟩ := view_lies hH hv hx
      split at h
      · rename_i bs hm
        cases h
        have hm1 := mapO_some hm
        have key : ∀ (i : Nat) (e : List D), es[i]? = some e → ∃ n : Int, e = [D.int .u8 n] ∧ bs[i]? = some (UInt8.ofNat n.toNat) := by
          intro i e hie
          obtain ⟨y, hy, hf⟩ := hm1.2 i e hie
          split at hf
          · rename_i n
            split at hf
            · cases hf; exact ⟨n, rfl, hy⟩
            · cases hf
          · cases hf
        rcases hl with rfl | ⟨b, off, sz, rfl, hb, hsz, hcells⟩
        · have : bs = [] := List.eq_nil_of_length_eq_zero (by rw [← hm1.1]; rfl)
          subst this
          refine ⟨.string ByteArray.empty, ?_, .str _ _ rfl⟩
          cases a with
          | none => exact run_convert_bytes_nil w src e hs he _ _ dst hd
          | some ad =>
            rw [run_convert_bytes_string w src dst e _ _ cap hs he hd]
            have := run_bytesToString (P := P) w ad 0 cap [] (by simp [loadCells, loadCellsFrom])
            simpa using this
        · cases hes : es with
          | nil => 
            subst hes
            have : bs = [] := List.eq_nil_of_length_eq_zero (by rw [← hm1.1]; rfl)
            subst this
            refine ⟨.string ByteArray.empty, ?_, .str _ _ rfl⟩
            rw [run_convert_bytes_string w src dst e _ _ cap hs he hd]
            have := run_bytesToString (P := P) w ⟨b, off, none⟩ 0 cap [] (by simp [loadCells, loadCellsFrom])
            simpa using this
          | cons e0 er =>
            rw [← hes]
            have hsz1 : sz = 1 := by
              obtain ⟨n, hn, _⟩ := key 0 e0 (by rw [hes]; rfl)
              rw [← hsz e0 (by rw [hes]; simp), hn]; rfl
            subst hsz1
            let ns : List Int := es.map fun e => match e with | [.int .u8 n] => n | _ => 0
            have hns : ∀ (i : Nat) (e : List D) (n : Int), es[i]? = some e → e = [D.int .u8 n] → ns[i]? = some n := by
              intro i e n hie hen
              simp only [ns, List.getElem?_map, hie, Option.map_some, hen]
            refine ⟨.string (strOfNums ns), run_convert_bytes_arg (P := P) w src e hs he b off es.length cap ns (by simp [ns]) (fun i hi => ?_) dst hd, .str _ _ ?_⟩
            · obtain ⟨n, hn, _⟩ := key i _ (List.getElem?_eq_getElem hi)
              obtain ⟨u, hu, hr⟩ := hcells i 0 _ (.int .u8 n) (List.getElem?_eq_getElem hi) (by rw [hn]; rfl)
              have := hns i _ n (List.getElem?_eq_getElem hi) hn
              simp only [Nat.mul_one, Nat.add_zero] at hu
              rw [hu, List.getD, this]
              cases hr; rfl
            · rw [strOfNums_data]
              refine List.ext_getElem? fun i => ?_
              rw [List.getElem?_map]
              rcases Nat.lt_or_ge i es.length with hi | hi
              · obtain ⟨n, hn, hb⟩ := key i _ (List.getElem?_eq_getElem hi)
                rw [hns i _ n (List.getElem?_eq_getElem hi) hn, hb]; rfl
              · rw [List.getElem?_eq_none (by simp [ns]; omega), List.getElem?_eq_none (by rw [← hm1.1]; exact hi)]; rfl
      · cases h
    · cases h
  · cases h

/-- 'i2s' -/
theorem ev_i2s {s : St} {t u : TypeId} {k0 : IntKind} {x : Opd} {va : Value} {r : AV} (ht : P.underlying t = some (.int k0)) (hu : P.underlying u = some .string)
    (hx : RepAV F w ρ ob (s.opd x) va) (h : evQ s (.i2s x) = some r) : ∃ v, (convert t u va).run P w = .ok v w ∧ RepAV F w ρ ob r v := by
  simp only [evQ] at h
  split at h
  · rename_i n hn
    obtain ⟨k', rfl⟩ := intOf_some hn hx
    split at h
    · rename_i h0
      cases h
      refine ⟨.string (Utf8.encode n), by simp [convert, run_underlying ht, run_underlying hu, Conv.intToString], .str _ _ ?_⟩
      have hv : Utf8.valid n = true := by
        simp only [Utf8.valid, Bool.or_eq_true, Bool.and_eq_true, decide_eq_true_eq]
        left; omega
      simp only [Utf8.encode, hv, if_true]
      rw [if_pos (by omega)]
    · cases h
  · cases h

/-- 'mkfn' -/
theorem ev_mkfn {K : Cfg} {s : St} {a : Act} {f' f : Nat} {caps : List Operand} {ys : List Opd} {r : AV} (hf : lookN f' K.fnOf = some f) (he : EnvRep K.fnOf w ρ ob s.env a)
    (hc : cOpds K caps = some ys) (h : evQ s (.mkfn f ys) = some r) :
    RepAV K.fnOf w ρ ob r (.func (.func f') #[] (caps.map a.eval).toArray) := by
  simp only [evQ] at h
  split at h
  · rename_i cs hm
    cases h
    refine ⟨f', _, hf, rfl, ?_, fun i c v hc' hv => ?_⟩
    · have h1 := (mapO_some hm).1
      have h2 := (mapO_some hc).1
      simp; omega
    · obtain ⟨y, hy, hy2⟩ := mapO_some' hm i c hc'
      obtain ⟨o, ho, ho2⟩ := mapO_some' hc i y hy
      simp only [List.getElem?_map, ho, Option.map_some, Option.some.injEq] at hv
      subst hv
      have := opd_rep he ho2
      unfold capOf at hy2
      split at hy2
      · cases hy2
      · rename_i x hnf hx
        cases hy2
        rw [hx] at this
        have this' : RepC K.fnOf w ρ ob c (a.eval o) := this
        cases c with
        | fn g cs' => exact (hnf g cs' rfl).elim
        | any => exact this'
        | d x => exact this'
        | nils => exact this'
        | sl id off len => exact this'
        | ptr id off => exact this'
        | map id => exact this'
        | itr id => exact this'
      · cases hy2
  · cases h

theorem toD_rep {s : St} {c : C} {d : D} {v : Value} (hH : HRel F w ρ s.obj?) (h : s.toD c = some d) (hr : RepC F w ρ s.obj? c v) : RepD w (XOf ρ s.obj?) d v := by
  unfold St.toD at h
  split at h
  · cases h; exact hr
  · cases h
    obtain ⟨a, rfl⟩ := hr
    exact .vec0 _ _
  · rename_i id off len
    split at h
    · rename_i sz es ho
      split at h
      · rename_i hle; cases h
        have hrow : rowO s.obj? id = some (sz, es) := by simp only [rowO, ho]
        obtain ⟨_, ⟨a, c, rfl⟩, h3⟩ := hr
        have h4 := h3 sz es hrow
        have hrep := rowO_rep hH hrow
        have hlen : ((es.drop off).take len).length = len := by simp; omega
        by_cases h0 : len = 0
        · subst h0; simp only [List.take_zero]; exact .vec0 _ _
        · simp only [SlAt] at h4
          split at h4
          · obtain ⟨a', h5⟩ := h4
            simp only [Value.slice.injEq] at h5
            omega
          · rename_i b cap hρ
            rcases hrep.2 with ⟨hn, _⟩ | ⟨b', cap', cur, ty, hρ', hb, hcs, hlc, _, hpos, hcells⟩
            · rw [hρ] at hn; cases hn
            · rw [hρ] at hρ'; cases hρ'
              have hbl : b < w.heap.size := (Array.getElem?_eq_some_iff.1 hb).1
              have hX : ¬ XOf ρ s.obj? b := by
                rintro (⟨id', o', c', ho', hl', hρ2⟩ | hy)
                case inr => exact hH.y id _ b cap ho rfl hρ hy
                have := hH.inj id' id o' _ b c' cap ho' hl' ho rfl hρ2 hρ
                subst this
                rw [ho] at ho'; cases ho'
                simp [live] at hl'
              have ha : a = some ⟨b, off * sz, none⟩ ∧ len ≤ c := by
                by_cases hz : off = 0
                · have := h4.1 hz
                  simp only [Value.slice.injEq] at this
                  exact ⟨by rw [this.1, hz, Nat.zero_mul], by omega⟩
                · have := h4.2 hz h0
                  simp only [Value.slice.injEq] at this
                  exact ⟨this.1, by omega⟩
              obtain ⟨rfl, hcap⟩ := ha
              have key : ∀ (i j : Nat) (e : List D) (d : D), ((es.drop off).take len)[i]? = some e → e[j]? = some d → ∃ u, cur[(off + i) * sz + j]? = some u ∧ RepD w (XOf ρ s.obj?) d u := fun i j e d he hd =>
                hcells (off + i) j e d (take_get he) hd
              have := RepD.vec (w := w) (X := XOf ρ s.obj?) ((es.drop off).take len) b (off * sz) sz c (fun i j => (cur[(off + i) * sz + j]?).getD undef) hX hbl (by omega)
                (fun e he => hrep.1 e (List.mem_of_mem_drop (List.mem_of_mem_take he)))
                (fun i j e d he hd => by
                  obtain ⟨u, hu, _⟩ := key i j e d he hd
                  rw [hu]
                  exact cell_at hb (by rw [Nat.add_mul] at hu; exact hu))
                (fun i j e d he hd => by
                  obtain ⟨u, hu, hr⟩ := key i j e d he hd
                  rw [hu]; exact hr)
              rw [hlen] at this
              exact this
      · cases h
    · cases h
  · cases h

theorem toDs_rep {s : St} {cs : List C} {ds : List D} {vs : List Value} (hH : HRel F w ρ s.obj?) (h : mapO s.toD cs = some ds) (hr : All2 (RepC F w ρ s.obj?) cs vs) :
    All2 (RepD w (XOf ρ s.obj?)) ds vs := by
  obtain ⟨h1, _⟩ := mapO_some h
  refine ⟨by rw [← h1]; exact hr.1, fun i d v hd hv => ?_⟩
  obtain ⟨c, hc, hf⟩ := mapO_some' h i d hd
  exact toD_rep hH hf (hr.2 i c v hc hv)

theorem toDV_rep {s : St} {x : V} {d : DV} {v : Value} (hH : HRel F w ρ s.obj?) (h : s.toDV x = some d) (hr : RepV F w ρ s.obj? x v) : RepDV w (XOf ρ s.obj?) d v := by
  cases x with
  | c x =>
    simp only [St.toDV] at h
    split at h
    · rename_i y hy; cases h; exact toD_rep hH hy hr
    · cases h
  | agg cs =>
    simp only [St.toDV] at h
    split at h
    · rename_i ds hds; cases h
      obtain ⟨arr, rfl, hcs⟩ := hr
      exact ⟨arr, rfl, toDs_rep hH hds hcs⟩
    · cases h

theorem dv_toV {x : DV} {v : Value} (h : RepDV w (XOf ρ ob) x v) : RepV F w ρ ob x.toV v := by
  cases x with
  | c x => exact h
  | agg ds =>
    obtain ⟨arr, rfl, h2⟩ := h
    refine ⟨arr, rfl, by simpa using h2.1, fun i c u hc hu => ?_⟩
    simp only [List.getElem?_map, Option.map_eq_some_iff] at hc
    obtain ⟨d, hd, rfl⟩ := hc
    exact h2.2 i d u hd hu

/-- 'entry' -/
theorem ev_entry {s : St} {x : Opd} {va : Value} {r : AV} (hH : HRel F w ρ s.obj?) (hx : RepAV F w ρ s.obj? (s.opd x) va) (h : evQ s (.entry x) = some r) :
    ∃ v, (Instr.entry va).run P w = .ok v w ∧ RepAV F w ρ s.obj? r v := by
  simp only [evQ] at h
  split at h
  · rename_i id hc
    rw [hc] at hx
    split at h
    · rename_i m left k v ho
      cases h
      obtain ⟨_, b, c, hρ, rfl⟩ := hx
      obtain ⟨b', c', mb, cm, ents, clock, seen, hρ', hρm, ⟨kvs, hkv⟩, hmb, hb, hleft, hcur⟩ := hH.objs id _ ho
      rw [hρ] at hρ'; cases hρ'
      obtain ⟨e, he, hs, hr1, hr2⟩ := hcur _ rfl
      obtain ⟨_, _, ents', clock', hρm', hmb', _, hlt, hpw⟩ := hH.objs m _ hkv
      rw [hρm] at hρm'; cases hρm'
      rw [hmb] at hmb'; cases hmb'
      have hfind : ents.find? (fun e' => e'.born == e.born) = some e := by
        rw [← Array.find?_toList]
        obtain ⟨l1, l2, hl⟩ := List.append_of_mem he
        rw [hl] at hpw ⊢
        simp only [List.map_append, List.map_cons, List.pairwise_append, List.mem_map, List.mem_cons] at hpw
        rw [List.find?_append]
        have hn : l1.find? (fun e' => e'.born == e.born) = none := by
          rw [List.find?_eq_none]
          intro y hy
          have := hpw.2.2 y.born ⟨y, hy, rfl⟩ e.born (.inl rfl)
          simp; omega
        simp [hn]
      refine ⟨.tuple #[e.key, e.val], ?_, _, rfl, fun i x hx => ?_⟩
      · simp [Instr.entry, getObj, Sem.run, hb, hs, hmb, hfind]
      · match i, hx with
        | 0, hx => simp at hx; subst hx; exact ⟨_, rfl, dv_toV hr1⟩
        | 1, hx => simp at hx; subst hx; exact ⟨_, rfl, dv_toV hr2⟩
        | i + 2, hx => simp at hx
    · cases h
  · cases h
end
end Go.Aiv

namespace Go.Aiv

section
variable {F : List (Nat × Nat)} {w : World} {ρ : Rho} {ob : Obs} {P : Program}

theorem setAt_self {α : Type} (l : List α) (off : Nat) : setAt off [] l = l := by simp [setAt]

theorem foldl_setAt : ∀ (vs : List Value) (k off : Nat) (arr : Array Value), off + k + vs.length ≤ arr.size →
    ((vs.zipIdx k).foldl (fun cs (p : Value × Nat) => cs.setIfInBounds (off + p.2) p.1) arr).toList = setAt (off + k) vs arr.toList
  | [], k, off, arr, _ => by simp [setAt]
  | v :: vs, k, off, arr, h => by
    simp only [List.length_cons] at h
    simp only [List.zipIdx_cons, List.foldl_cons]
    rw [foldl_setAt vs (k + 1) off _ (by simp; omega)]
    simp only [setAt, Array.toList_setIfInBounds, List.length_cons]
    have hlt : off + k < arr.toList.length := by simp; omega
    have e1 : (arr.toList.set (off + k) v).take (off + (k + 1)) = arr.toList.take (off + k) ++ [v] := by
      rw [show off + (k + 1) = off + k + 1 by omega, List.take_add_one, List.take_set_of_le (by omega)]
      simp [List.getElem?_set_self hlt]
    have e2 : (arr.toList.set (off + k) v).drop (off + (k + 1) + vs.length) = arr.toList.drop (off + k + (vs.length + 1)) := by
      rw [List.drop_set_of_lt (by omega)]
      congr 1; omega
    rw [e1, e2]
    simp

theorem All2.setAt {α β : Type} {R : α → β → Prop} {xs ns : List α} {ys ms : List β} {off : Nat} (h : All2 R xs ys) (hn : All2 R ns ms) : All2 R (setAt off ns xs) (setAt off ms ys) := by
  unfold Aiv.setAt
  rw [hn.1]
  exact (((h.take off).append hn).append (h.drop _))

theorem fill_rep {s : St} {place : Nat → Option (Nat × Nat)} : ∀ (parts : List (Nat × Value)) (cparts : List (Nat × Nat × Opd)) (cs out : List C) (arr : Array Value),
    All2 (fun (p : Nat × Value) (q : Nat × Nat × Opd) => place p.1 = some (q.1, q.2.1) ∧ RepAV F w ρ ob (s.opd q.2.2) p.2) parts cparts →
    buildC s cs cparts = some out → All2 (RepC F w ρ ob) cs arr.toList →
    ∃ arr', Instr.fill place arr parts = some arr' ∧ All2 (RepC F w ρ ob) out arr'.toList
  | [], cparts, cs, out, arr, hp, hb, hc => by
    have : cparts = [] := List.eq_nil_of_length_eq_zero hp.1.symm
    subst this
    simp only [buildC, Option.some.injEq] at hb
    subst hb
    exact ⟨arr, rfl, hc⟩
  | p :: parts, cparts, cs, out, arr, hp, hb, hc => by
    obtain ⟨q, cparts', rfl, ⟨hpl, hr⟩, hp'⟩ := hp.consL
    obtain ⟨off, n, x⟩ := q
    simp only [buildC] at hb
    split at hb
    · rename_i v hv
      simp only at hr
      rw [hv] at hr
      have hr' : RepV F w ρ ob v p.2 := hr
      split at hb
      · rename_i hcond
        obtain ⟨i, u⟩ := p
        simp only at hpl hr'
        have hsz := hr'.size
        have hlen : cs.length = arr.size := by have := hc.1; simpa using this
        have hset : (u.cells.zipIdx.foldl (fun cs (c, j) => cs.setIfInBounds (off + j) c) arr).toList = setAt off u.cells.toList arr.toList := by
          have := foldl_setAt u.cells.toList 0 off arr (by simp; omega)
          rw [← Array.foldl_toList, Array.toList_zipIdx]
          simpa using this
        obtain ⟨arr', h1, h2⟩ := fill_rep parts cparts' _ out (u.cells.zipIdx.foldl (fun cs (c, j) => cs.setIfInBounds (off + j) c) arr) hp' hb (by
          rw [hset]; exact hc.setAt hr'.cells)
        refine ⟨arr', ?_, h2⟩
        simp only [Instr.fill, hpl]
        rw [if_neg (by simp; omega)]
        exact h1
      · cases hb
    · cases hb

/-- 'look' -/
def KdIs : Kd → TypeDesc → Prop
  | .int k, d => d = .int k
  | .str, d => d = .string
  | .bool, _ => False

theorem findNow_rep {kk : Kd} {kd : TypeDesc} (hk : KdIs kk kd) {X : Nat → Prop} {k : DV} {vk : Value} (hkr : RepDV w X k vk) :
    ∀ (kvs : KVs) (ents : List MapEntry) (i : Nat) (r : Option DV), All2 (RepKV w X) kvs ents → findKV kk k kvs = some r →
      ∃ q, Instr.findNow kd vk ents i = some q ∧ (match r, q with | none, none => True | some d, some (j, v) => RepDV w X d v ∧ (∃ e, ents[j - i]? = some e ∧ e.val = v) ∧ i ≤ j | _, _ => False)
  | [], ents, i, r, ha, h => by
    have : ents = [] := List.eq_nil_of_length_eq_zero ha.1.symm
    subst this
    simp only [findKV, Option.some.injEq] at h
    subst h
    exact ⟨none, rfl, trivial⟩
  | (k', v') :: kvs, ents, i, r, ha, h => by
    obtain ⟨e, ents', rfl, ⟨hk', hv'⟩, ha'⟩ := ha.consL
    simp only [findKV] at h
    have hsame : ∀ b, eqKey kk k k' = some b → Instr.sameNow kd vk e.key = some b := by
      intro b hb
      unfold eqKey at hb
      split at hb
      · rename_i k0 k1 a k2 b'
        split at hb
        · rename_i hkk
          cases hb
          have hk1 : RepD w X (.int k1 a) vk := hkr
          have hk2 : RepD w X (.int k2 b') e.key := hk'
          cases hk1; cases hke : e.key with
          | int k3 n3 =>
            rw [hke] at hk2; cases hk2
            simp only [KdIs] at hk; subst hk
            simp [Instr.sameNow, hkk]
          | _ => rw [hke] at hk2; cases hk2
        · cases hb
      · rename_i a b'
        cases hb
        have hk1 : RepD w X (.str a) vk := hkr
        have hk2 : RepD w X (.str b') e.key := hk'
        cases hk1 with
        | str _ s1 h1 =>
          cases hke : e.key with
          | string s2 =>
            rw [hke] at hk2
            cases hk2 with
            | str _ _ h2 =>
              simp only [KdIs] at hk; subst hk
              simp only [Instr.sameNow, beq_toListBytes, toList_data, h1, h2]
          | _ => rw [hke] at hk2; cases hk2
      · cases hb
    split at h
    · rename_i hb
      cases h
      refine ⟨some (i, e.val), by simp only [Instr.findNow, hsame _ hb], hv', ⟨e, by simp, rfl⟩, Nat.le_refl _⟩
    · rename_i hb
      obtain ⟨q, h1, h2⟩ := findNow_rep hk hkr kvs ents' (i + 1) r ha' h
      refine ⟨q, by simp only [Instr.findNow, hsame _ hb, h1], ?_⟩
      cases r with
      | none => cases q with
        | none => trivial
        | some p => exact h2.elim
      | some d => cases q with
        | none => exact h2.elim
        | some p =>
          obtain ⟨j, v⟩ := p
          obtain ⟨h3, ⟨e', h4, h5⟩, h6⟩ := h2
          refine ⟨h3, ⟨e', ?_, h5⟩, by omega⟩
          rw [show j - i = (j - (i + 1)) + 1 by omega]
          simpa using h4
    · cases h

theorem keyKd_some {t : TypeId} {kk : Kd} (h : keyKd P t = some kk) : ∃ kd, P.underlying t = some kd ∧ KdIs kk kd ∧
    ∀ (b : Bool) (n : Nat) (v : Value), (Instr.checkKey b (n + 1) t v).run P w = .ok () w := by
  unfold keyKd at h
  split at h
  · rename_i k hu; cases h
    exact ⟨_, hu, rfl, fun b n v => by simp [Instr.checkKey, run_underlying hu]⟩
  · rename_i hu; cases h
    exact ⟨_, hu, rfl, fun b n v => by simp [Instr.checkKey, run_underlying hu]⟩
  · cases h

theorem run_findKey {t : TypeId} {kd : TypeDesc} (hu : P.underlying t = some kd) {k : Value} {es : List MapEntry} {q : Option (Nat × Value)} (h : Instr.findNow kd k es 0 = some q) :
    (Instr.findKey t k es).run P w = .ok q w := by
  simp only [Instr.findKey, Sem.run_bind, run_underlying hu, Result.andThen_ok, h, Sem.run_pure]

theorem zeroV_run {t : TypeId} {z : V} (h : zeroV P t = some z) : ∃ v, (zeroValue t).run P w = .ok v w ∧ RepV F w ρ ob z v := by
  simp only [zeroV, Option.bind_eq_bind, Option.bind_eq_some_iff] at h
  obtain ⟨i, hi, zv, hz, hc⟩ := h
  exact ⟨zv, by simp [zeroValue, typeInfo, hi, hz], constV_rep hc⟩

theorem ev_look {s : St} {t kt e : TypeId} {kk : Kd} {z : V} {m k : Opd} {ok : Bool} {vm vk : Value} {r : AV} (ht : P.underlying t = some (.map kt e)) (hkk : keyKd P kt = some kk)
    (hz : zeroV P e = some z) (hH : HRel F w ρ s.obj?) (hm : RepAV F w ρ s.obj? (s.opd m) vm) (hk : RepAV F w ρ s.obj? (s.opd k) vk)
    (h : evQ s (.look kk z m k ok) = some r) : ∃ v, (Instr.lookup t vm vk ok).run P w = .ok v w ∧ RepAV F w ρ s.obj? r v := by
  simp only [evQ] at h
  split at h
  · rename_i id kv h1 h2
    rw [h1] at hm; rw [h2] at hk
    obtain ⟨_, b, c, hρ, rfl⟩ := hm
    split at h
    · rename_i kd kvs h3 h4
      have hkd := toDV_rep hH h3 hk
      obtain ⟨b', c', ents, clock, hρ', hb, hents, _⟩ := kvsOf_rep hH h4
      rw [hρ] at hρ'; cases hρ'
      obtain ⟨kdesc, hu, hkd2, hck⟩ := keyKd_some (P := P) (w := w) hkk
      split at h
      · rename_i rr hf
        cases h
        obtain ⟨q, hq1, hq2⟩ := findNow_rep hkd2 hkd kvs ents.toList 0 rr hents hf
        have hfk := run_findKey (P := P) (w := w) hu hq1
        obtain ⟨zv, hzr, hzrep⟩ := zeroV_run (P := P) (w := w) (F := F) (ρ := ρ) (ob := s.obj?) hz
        have hck' := hck ents.isEmpty 9999 vk
        cases rr with
        | none =>
          cases q with
          | some p => exact hq2.elim
          | none =>
            refine ⟨if ok then .tuple #[zv, .bool false] else zv, ?_, ?_⟩
            · simp [Instr.lookup, run_underlying ht, getObj, Sem.run, hb, hck', hfk, hzr]
            · cases ok
              · exact hzrep
              · refine ⟨_, rfl, fun i x hx => ?_⟩
                match i, hx with
                | 0, hx => simp at hx; subst hx; exact ⟨_, rfl, hzrep⟩
                | 1, hx => simp at hx; subst hx; exact ⟨_, rfl, .bool _⟩
                | i + 2, hx => simp at hx
        | some d =>
          cases q with
          | none => exact hq2.elim
          | some p =>
            obtain ⟨j, v⟩ := p
            obtain ⟨hv, _, _⟩ := hq2
            refine ⟨if ok then .tuple #[v, .bool true] else v, ?_, ?_⟩
            · simp [Instr.lookup, run_underlying ht, getObj, Sem.run, hb, hck', hfk]
            · cases ok
              · exact dv_toV hv
              · refine ⟨_, rfl, fun i x hx => ?_⟩
                match i, hx with
                | 0, hx => simp at hx; subst hx; exact ⟨_, rfl, dv_toV hv⟩
                | 1, hx => simp at hx; subst hx; exact ⟨_, rfl, .bool _⟩
                | i + 2, hx => simp at hx
      · cases h
    · cases h
  · cases h

/-- 'max', 'min' -/
theorem fold_minmax {isMax : Bool} : ∀ (xs : List AV) (vs : List Value) (k : IntKind) (a : Int) (r : AV), All2 (RepAV F w ρ ob) xs vs → mmFrom isMax k a xs = some r →
    ∃ v, (vs.foldlM (if isMax then Builtin.max2 else Builtin.min2) (.int k a)).run P w = .ok v w ∧ RepAV F w ρ ob r v
  | [], vs, k, a, r, hv, h => by
    have : vs = [] := List.eq_nil_of_length_eq_zero hv.1.symm
    subst this
    simp only [mmFrom, Option.some.injEq] at h
    subst h
    exact ⟨.int k a, by simp, .int _ _⟩
  | x :: xs, vs, k, a, r, hv, h => by
    obtain ⟨v, vs', rfl, hx, hv'⟩ := hv.consL
    unfold mmFrom at h
    split at h
    · rename_i h1; cases h1
    · rename_i k2 b r' h1
      cases h1
      have e1 := repAV_int hx
      subst e1
      obtain ⟨v, h2, h3⟩ := fold_minmax xs vs' k _ r hv' h
      refine ⟨v, ?_, h3⟩
      simp only [List.foldlM_cons, Sem.run_bind]
      cases isMax <;> simp_all [Builtin.max2, Builtin.min2]
    · cases h

theorem ev_minmax {s : St} {isMax : Bool} {ts : Array TypeId} {ty : TypeId} {xs : List Opd} {vs : List Value} {r : AV} (hx : All2 (RepAV F w ρ ob) (xs.map s.opd) vs)
    (h : minmax isMax (xs.map s.opd) = some r) : ∃ v, ((if isMax then Builtin.max_ else Builtin.min_) ts ty vs.toArray).run P w = .ok v w ∧ RepAV F w ρ ob r v := by
  generalize xs.map s.opd = ys at *
  unfold minmax at h
  split at h
  · rename_i k a rest
    obtain ⟨v, vs', rfl, h1, h2⟩ := hx.consL
    have e1 := repAV_int h1
    subst e1
    obtain ⟨v, h3, h4⟩ := fold_minmax (P := P) rest vs' k a r h2 h
    refine ⟨v, ?_, h4⟩
    cases isMax
    · simpa [Builtin.max_, Builtin.min_] using h3
    · simpa [Builtin.max_, Builtin.min_] using h3
  · cases h

/-- 'build' -/
theorem ev_build {s : St} {t : TypeId} {fs : Array Field} {zero : List C} {pl : List (Nat × Nat)} {parts : List (Nat × Value)} {cparts : List (Nat × Nat × Opd)} {r : AV}
    (ht : P.underlying t = some (.struct fs)) (hz : zeroC P t = some zero) (hpl : (fs.toList.mapM fun f => (P.info? f.type).map fun i => (f.offset, i.size)) = some pl)
    (hp : All2 (fun (p : Nat × Value) (q : Nat × Nat × Opd) => pl[p.1]? = some (q.1, q.2.1) ∧ RepAV F w ρ ob (s.opd q.2.2) p.2) parts cparts)
    (h : evQ s (.build zero cparts) = some r) : ∃ v, (Instr.build t parts.toArray).run P w = .ok v w ∧ RepAV F w ρ ob r v := by
  simp only [evQ] at h
  split at h
  · rename_i cs hb
    cases h
    simp only [zeroC, Option.bind_eq_bind, Option.bind_eq_some_iff] at hz
    obtain ⟨i, hi, zv, hzv, u, hu, hcs⟩ := hz
    split at hcs
    · rename_i hl
      simp only [Option.some.injEq] at hcs
      subst hcs
      have hr : RepV F w ρ ob u zv := constV_rep hu
      obtain ⟨arr', h1, h2⟩ := fill_rep (place := (pl[·]?)) parts cparts u.cells cs zv.cells hp hb hr.cells
      refine ⟨.agg arr', ?_, arr', rfl, h2⟩
      have hplr := run_places (P := P) w fs.toList pl hpl
      simp [Instr.build, run_underlying ht, typeInfo, zeroValue, hi, hzv, Array.mapM_eq_mapM_toList, hplr, h1]
    · cases hcs
  · cases h
end
end Go.Aiv

namespace Go.Aiv

section
variable {w : World} {ρ : Rho} {P : Program} {K : Cfg}

theorem opds_rep {ob : Obs} {s : St} {a : Act} {xs : List Operand} {ys : List Opd} (he : EnvRep K.fnOf w ρ ob s.env a) (h : cOpds K xs = some ys) :
    All2 (RepAV K.fnOf w ρ ob) (ys.map s.opd) (xs.map a.eval) := by
  obtain ⟨h1, h2⟩ := mapO_some h
  refine ⟨by simp [h1], fun i x v hx hv => ?_⟩
  simp only [List.getElem?_map, Option.map_eq_some_iff] at hx hv
  obtain ⟨y, hy, rfl⟩ := hx
  obtain ⟨o, ho, rfl⟩ := hv
  obtain ⟨y', hy', hc⟩ := h2 i o ho
  rw [hy] at hy'; cases hy'
  exact opd_rep he hc

theorem value_run {m : Sem Value} {v : Value} (h : m.run P w = .ok v w) : (do pure (.value (← m)) : Sem Next).run P w = .ok (.value v) w := by
  simp only [Sem.run_bind, h, Result.andThen_ok, Sem.run_pure]

theorem list_toArray_one {α : Type} {xs : Array α} {a : α} (h : xs.toList = [a]) : xs = #[a] := by
  have := congrArg List.toArray h; simpa using this
theorem list_toArray_two {α : Type} {xs : Array α} {a b : α} (h : xs.toList = [a, b]) : xs = #[a, b] := by
  have := congrArg List.toArray h; simpa using this

theorem evQ_sound {s : St} {a : Act} {o : Oper} {sop : SOp} {r : AV} (hH : HRel K.fnOf w ρ s.obj?) (he : EnvRep K.fnOf w ρ s.obj? s.env a) (hc : cOp P K o = some sop) (h : evQ s sop = some r) :
    ∃ v, (execOp a.eval o).run P w = .ok (.value v) w ∧ RepAV K.fnOf w ρ s.obj? r v := by
  obtain ⟨dst, op, type, pos, after, guard⟩ := o
  have fin : ∀ {m : Sem Value}, (∃ v, m.run P w = .ok v w ∧ RepAV K.fnOf w ρ s.obj? r v) → ∃ v, (do pure (.value (← m)) : Sem Next).run P w = .ok (.value v) w ∧ RepAV K.fnOf w ρ s.obj? r v :=
    fun ⟨v, h1, h2⟩ => ⟨v, value_run h1, h2⟩
  cases op
  case move x =>
    simp only [cOp, Option.map_eq_some_iff] at hc
    obtain ⟨y, hy, rfl⟩ := hc
    simp only [evQ, Option.some.injEq] at h
    subst h
    exact ⟨a.eval x, by simp [execOp], opd_rep he hy⟩
  case assign x =>
    simp only [cOp, Option.map_eq_some_iff] at hc
    obtain ⟨y, hy, rfl⟩ := hc
    simp only [evQ, Option.some.injEq] at h
    subst h
    exact ⟨a.eval x, by simp [execOp], opd_rep he hy⟩
  case pick c x y =>
    simp only [cOp, Option.bind_eq_bind, Option.bind_eq_some_iff, Option.some.injEq] at hc
    obtain ⟨c', hc', x', hx', y', hy', rfl⟩ := hc
    obtain ⟨v, h1, h2⟩ := ev_pick (P := P) (opd_rep he hc') (opd_rep he hx') (opd_rep he hy') h
    refine ⟨v, ?_, h2⟩
    simp only [execOp]
    simp only [Sem.run_bind, Sem.run_pure] at h1 ⊢
    cases hb : (asBool (a.eval c)).run P w with
    | ok b w' =>
      rw [hb] at h1
      simp only [Result.andThen_ok, Result.ok.injEq] at h1 ⊢
      obtain ⟨h3, h4⟩ := h1
      exact ⟨by rw [h3], h4⟩
    | halt x w' => rw [hb] at h1; simp [Result.andThen] at h1
  case load t x =>
    simp only [cOp, Option.bind_eq_bind, Option.bind_eq_some_iff, Option.some.injEq] at hc
    obtain ⟨⟨g, n⟩, hl, x', hx', rfl⟩ := hc
    simp only [execOp]
    exact fin (ev_load hl hH (opd_rep he hx') h)
  case nilCheck x =>
    simp only [cOp, Option.map_eq_some_iff] at hc
    obtain ⟨y, hy, rfl⟩ := hc
    have hr := opd_rep he hy
    simp only [evQ] at h
    split at h
    · rename_i id off h1
      cases h; rw [h1] at hr
      obtain ⟨h2, b, c, h3, h4⟩ := hr
      refine ⟨a.eval x, by simp [execOp, h4], h2, b, c, h3, h4⟩
    · rename_i f cs h1
      cases h; rw [h1] at hr
      obtain ⟨f', vs, h2, h3, h4⟩ := hr
      refine ⟨a.eval x, by simp [execOp, h3], f', vs, h2, h3, h4⟩
    · cases h
  case binOp op t x y yt =>
    simp only [cOp] at hc
    simp only [execOp]
    split at hc
    · simp only [Option.bind_eq_bind, Option.bind_eq_some_iff, Option.some.injEq] at hc
      obtain ⟨x', hx', y', hy', rfl⟩ := hc
      exact fin (ev_bin (opd_rep he hx') (opd_rep he hy') h)
    · simp only [Option.bind_eq_bind, Option.bind_eq_some_iff, Option.some.injEq] at hc
      obtain ⟨x', hx', y', hy', rfl⟩ := hc
      exact fin (ev_bin (opd_rep he hx') (opd_rep he hy') h)
    · rename_i hu
      split at hc
      · simp only [Option.bind_eq_bind, Option.bind_eq_some_iff, Option.some.injEq] at hc
        obtain ⟨x', hx', y', hy', rfl⟩ := hc
        exact fin (ev_beq (neg := false) hu (opd_rep he hx') (opd_rep he hy') h)
      · simp only [Option.bind_eq_bind, Option.bind_eq_some_iff, Option.some.injEq] at hc
        obtain ⟨x', hx', y', hy', rfl⟩ := hc
        exact fin (ev_beq (neg := true) hu (opd_rep he hx') (opd_rep he hy') h)
      · cases hc
    · rename_i fs hu
      simp only [Option.bind_eq_bind, Option.bind_eq_some_iff] at hc
      obtain ⟨ks, hks, hc⟩ := hc
      split at hc
      · rename_i hg
        split at hc
        · simp only [Option.bind_eq_some_iff, Option.some.injEq] at hc
          obtain ⟨x', hx', y', hy', rfl⟩ := hc
          exact fin (ev_eqa (neg := false) hu hks hg (opd_rep he hx') (opd_rep he hy') h)
        · simp only [Option.bind_eq_some_iff, Option.some.injEq] at hc
          obtain ⟨x', hx', y', hy', rfl⟩ := hc
          exact fin (ev_eqa (neg := true) hu hks hg (opd_rep he hx') (opd_rep he hy') h)
        · cases hc
      · cases hc
    · split at hc
      · split at hc
        · simp only [Option.bind_eq_bind, Option.bind_eq_some_iff, Option.some.injEq] at hc
          obtain ⟨_, _, rfl⟩ := hc; simp [evQ] at h
        · simp only [Option.bind_eq_bind, Option.bind_eq_some_iff, Option.some.injEq] at hc
          obtain ⟨_, _, rfl⟩ := hc; simp [evQ] at h
        · cases hc
      · cases hc
    · cases hc
  case unOp op t x =>
    simp only [cOp, Option.bind_eq_bind, Option.bind_eq_some_iff, Option.some.injEq] at hc
    obtain ⟨x', hx', rfl⟩ := hc
    simp only [execOp]
    exact fin (ev_un (opd_rep he hx') h)
  case convert t u x =>
    simp only [cOp] at hc
    simp only [execOp]
    split at hc
    · rename_i ht hu
      simp only [Option.bind_eq_bind, Option.bind_eq_some_iff, Option.some.injEq] at hc
      obtain ⟨x', hx', rfl⟩ := hc
      exact fin (ev_cint ht hu (opd_rep he hx') h)
    · rename_i ht hu
      simp only [Option.bind_eq_bind, Option.bind_eq_some_iff, Option.some.injEq] at hc
      obtain ⟨x', hx', rfl⟩ := hc
      exact fin (ev_cstr ht hu (opd_rep he hx') h)
    · rename_i ht hu
      simp only [Option.bind_eq_bind, Option.bind_eq_some_iff, Option.some.injEq] at hc
      obtain ⟨x', hx', rfl⟩ := hc
      exact fin (ev_i2s ht hu (opd_rep he hx') h)
    · rename_i ht hu
      split at hc
      · rename_i hue
        simp only [Option.bind_eq_bind, Option.bind_eq_some_iff, Option.some.injEq] at hc
        obtain ⟨x', hx', rfl⟩ := hc
        exact fin (ev_b2s ht hue hu hH (opd_rep he hx') h)
      · cases hc
    · split at hc
      · simp only [Option.bind_eq_bind, Option.bind_eq_some_iff, Option.some.injEq] at hc
        obtain ⟨x', hx', rfl⟩ := hc
        simp [evQ] at h
      · cases hc
    · cases hc
  case build t parts =>
    simp only [cOp] at hc
    split at hc
    · rename_i fs hu
      simp only [Option.bind_eq_bind, Option.bind_eq_some_iff, Option.some.injEq] at hc
      obtain ⟨pl, hpl, ps, hps, z, hz, rfl⟩ := hc
      simp only [execOp]
      have hm := mapO_some hps
      have : parts.map (fun (x : Nat × Operand) => match x with | (i, x) => (i, a.eval x)) = (parts.toList.map fun p => (p.1, a.eval p.2)).toArray := by
        rw [← List.map_toArray, Array.toArray_toList]
      rw [this]
      refine fin (ev_build hu hz hpl ⟨by simp [hm.1], fun i p q hp hq => ?_⟩ h)
      simp only [List.getElem?_map, Option.map_eq_some_iff] at hp
      obtain ⟨p0, hp0, rfl⟩ := hp
      obtain ⟨q', hq', hcp⟩ := hm.2 i p0 hp0
      rw [hq] at hq'; cases hq'
      unfold cPart at hcp
      split at hcp
      · rename_i off n x' h1 h2
        cases hcp
        exact ⟨h1, opd_rep he h2⟩
      · cases hcp
    · cases hc
  case makeFunc fn first caps =>
    cases fn with
    | func f =>
      simp only [cOp] at hc
      split at hc
      · rename_i hfirst
        simp only [Option.bind_eq_bind, Option.bind_eq_some_iff, Option.some.injEq] at hc
        obtain ⟨f', hf', ys, hys, rfl⟩ := hc
        have h0 : first = #[] := by simpa using hfirst
        subst h0
        have := ev_mkfn (ρ := ρ) (ob := s.obj?) (w := w) hf' he hys h
        refine ⟨_, ?_, this⟩
        have e : caps.map a.eval = (caps.toList.map a.eval).toArray := by rw [← List.map_toArray, Array.toArray_toList]
        simp [execOp, Instr.makeFunc, e]
      · cases hc
    | _ => simp [cOp] at hc
  case slice t x lo hi mx =>
    simp only [cOp] at hc
    simp only [execOp]
    split at hc
    · rename_i hu
      split at hc
      · cases hc
      · rename_i hmx
        simp only [Option.bind_eq_bind, Option.bind_eq_some_iff, Option.some.injEq] at hc
        obtain ⟨x', hx', lo', hlo', hi', hhi', rfl⟩ := hc
        have : mx = none := by cases mx with | none => rfl | some _ => simp at hmx
        subst this
        exact fin (ev_sslice hu (opd_rep he hx') (opdO_rep he hlo') (opdO_rep he hhi') h)
    · rename_i e hu
      simp only [Option.bind_eq_bind, Option.bind_eq_some_iff, Option.some.injEq] at hc
      obtain ⟨sz, hsz, x', hx', lo', hlo', hi', hhi', mx', hmx', rfl⟩ := hc
      exact fin (ev_vslice hu hsz hH (opd_rep he hx') (opdO_rep he hlo') (opdO_rep he hhi') (opdO_rep he hmx') h)
    · cases hc
  case fieldAddr t x i =>
    simp only [cOp] at hc
    simp only [execOp]
    split at hc
    · rename_i fs hu
      simp only [Option.bind_eq_bind, Option.bind_eq_some_iff] at hc
      obtain ⟨f, hf, n, hn, hc⟩ := hc
      split at hc
      · cases hc
      · rename_i hn0
        simp only [Option.bind_eq_some_iff, Option.some.injEq] at hc
        obtain ⟨x', hx', rfl⟩ := hc
        exact fin (ev_faddr hu hf hn hn0 (opd_rep he hx') h)
    · cases hc
  case field t x i =>
    simp only [cOp] at hc
    simp only [execOp]
    split at hc
    · rename_i fs hu
      simp only [Option.bind_eq_bind, Option.bind_eq_some_iff, Option.some.injEq] at hc
      obtain ⟨f, hf, ⟨g, n⟩, hl, x', hx', rfl⟩ := hc
      exact fin (ev_field hu hf hl (opd_rep he hx') h)
    · cases hc
  case indexAddr t x i =>
    simp only [cOp] at hc
    simp only [execOp]
    split at hc
    · rename_i e hu
      simp only [Option.bind_eq_bind, Option.bind_eq_some_iff, Option.some.injEq] at hc
      obtain ⟨sz, hsz, x', hx', i', hi', rfl⟩ := hc
      exact fin (ev_iaddr hu hsz hH (opd_rep he hx') (opd_rep he hi') h)
    · cases hc
  case index t x i =>
    simp only [cOp] at hc
    simp only [execOp]
    split at hc
    · rename_i hu
      simp only [Option.bind_eq_bind, Option.bind_eq_some_iff, Option.some.injEq] at hc
      obtain ⟨x', hx', i', hi', rfl⟩ := hc
      exact fin (ev_sidx hu (opd_rep he hx') (opd_rep he hi') h)
    · cases hc
  case lookup t m k ok =>
    simp only [cOp] at hc
    simp only [execOp]
    split at hc
    · rename_i kt e hu
      simp only [Option.bind_eq_bind, Option.bind_eq_some_iff, Option.some.injEq] at hc
      obtain ⟨kk, hkk, z, hz, m', hm', k', hk', rfl⟩ := hc
      exact fin (ev_look hu hkk hz hH (opd_rep he hm') (opd_rep he hk') h)
    · cases hc
  case extract x i =>
    simp only [cOp, Option.bind_eq_bind, Option.bind_eq_some_iff, Option.some.injEq] at hc
    obtain ⟨x', hx', rfl⟩ := hc
    simp only [execOp]
    exact fin (ev_extract (opd_rep he hx') h)
  case entry x =>
    simp only [cOp, Option.bind_eq_bind, Option.bind_eq_some_iff, Option.some.injEq] at hc
    obtain ⟨x', hx', rfl⟩ := hc
    simp only [execOp]
    exact fin (ev_entry hH (opd_rep he hx') h)
  case call c =>
    obtain ⟨callee, args, argTypes⟩ := c
    simp only [cOp] at hc
    split at hc
    case h_1 => simp only [Option.bind_eq_bind, Option.bind_eq_some_iff, Option.some.injEq] at hc; obtain ⟨_, _, _, _, rfl⟩ := hc; simp [evQ] at h
    case h_2 => simp only [Option.bind_eq_bind, Option.bind_eq_some_iff, Option.some.injEq] at hc; obtain ⟨_, _, rfl⟩ := hc; simp [evQ] at h
    case h_3 =>
      split at hc
      · rename_i t x hts hxs
        have e1 := list_toArray_one hts
        have e2 := list_toArray_one hxs
        subst e1; subst e2
        have ex : ∀ v, (Builtin.len_ #[t] type #[a.eval x]).run P w = .ok v w → (execOp a.eval ⟨dst, .call ⟨.builtin .len, #[x], #[t]⟩, type, pos, after, guard⟩).run P w = .ok (.value v) w := by
          intro v hv
          simp [execOp, resolve, invoke, builtin, hv]
        have fin2 : (∃ v, (Builtin.len_ #[t] type #[a.eval x]).run P w = Result.ok v w ∧ RepAV K.fnOf w ρ s.obj? r v) → ∃ v, (execOp a.eval ⟨dst, .call ⟨.builtin .len, #[x], #[t]⟩, type, pos, after, guard⟩).run P w = Result.ok (.value v) w ∧ RepAV K.fnOf w ρ s.obj? r v := fun ⟨v, h1, h2⟩ => ⟨v, ex v h1, h2⟩
        split at hc
        · rename_i hu
          simp only [Option.map_eq_some_iff] at hc
          obtain ⟨y, hy, rfl⟩ := hc
          exact fin2 (ev_slen hu (opd_rep he hy) h)
        · rename_i hu
          simp only [Option.map_eq_some_iff] at hc
          obtain ⟨y, hy, rfl⟩ := hc
          exact fin2 (ev_vlen hu (opd_rep he hy) h)
        · rename_i hu
          simp only [Option.map_eq_some_iff] at hc
          obtain ⟨y, hy, rfl⟩ := hc
          exact fin2 (ev_mlen hu hH (opd_rep he hy) h)
        · cases hc
      · cases hc
    case h_4 =>
      split at hc
      · split at hc
        · simp only [Option.bind_eq_bind, Option.bind_eq_some_iff, Option.some.injEq] at hc; obtain ⟨_, _, _, _, _, _, _, _, rfl⟩ := hc; simp [evQ] at h
        · simp only [Option.bind_eq_bind, Option.bind_eq_some_iff, Option.some.injEq] at hc; obtain ⟨_, _, _, _, _, _, _, _, rfl⟩ := hc; simp [evQ] at h
        · cases hc
      · cases hc
    case h_5 =>
      split at hc
      · split at hc
        · simp only [Option.bind_eq_bind, Option.bind_eq_some_iff, Option.some.injEq] at hc; obtain ⟨_, _, _, _, _, _, rfl⟩ := hc; simp [evQ] at h
        · cases hc
      · cases hc
    case h_6 =>
      split at hc
      · split at hc
        · simp only [Option.bind_eq_bind, Option.bind_eq_some_iff, Option.some.injEq] at hc; obtain ⟨_, _, _, _, _, _, rfl⟩ := hc; simp [evQ] at h
        · cases hc
      · cases hc
    case h_7 =>
      simp only [Option.bind_eq_bind, Option.bind_eq_some_iff, Option.some.injEq] at hc
      obtain ⟨ys, hys, rfl⟩ := hc
      simp only [evQ] at h
      obtain ⟨v, h1, h2⟩ := ev_minmax (P := P) (isMax := true) (ts := argTypes) (ty := type) (opds_rep he hys) h
      refine ⟨v, ?_, h2⟩
      simp only [if_true] at h1
      have : (args.map a.eval) = (args.toList.map a.eval).toArray := by rw [← List.map_toArray, Array.toArray_toList]
      simp [execOp, resolve, invoke, builtin, this, h1]
    case h_8 =>
      simp only [Option.bind_eq_bind, Option.bind_eq_some_iff, Option.some.injEq] at hc
      obtain ⟨ys, hys, rfl⟩ := hc
      simp only [evQ] at h
      obtain ⟨v, h1, h2⟩ := ev_minmax (P := P) (isMax := false) (ts := argTypes) (ty := type) (opds_rep he hys) h
      refine ⟨v, ?_, h2⟩
      simp only [Bool.false_eq_true, if_false] at h1
      have : (args.map a.eval) = (args.toList.map a.eval).toArray := by rw [← List.map_toArray, Array.toArray_toList]
      simp [execOp, resolve, invoke, builtin, this, h1]
    case h_9 => cases hc
  case alloc t =>
    simp only [cOp, Option.bind_eq_bind, Option.bind_eq_some_iff, Option.some.injEq] at hc
    obtain ⟨_, _, rfl⟩ := hc; simp [evQ] at h
  case box t x =>
    simp only [cOp, Option.bind_eq_bind, Option.bind_eq_some_iff, Option.some.injEq] at hc
    obtain ⟨_, _, _, _, rfl⟩ := hc; simp [evQ] at h
  case buildSlice t n ps =>
    simp only [cOp] at hc
    split at hc
    · simp only [Option.bind_eq_bind, Option.bind_eq_some_iff, Option.some.injEq] at hc
      obtain ⟨_, _, _, _, _, _, _, _, rfl⟩ := hc; simp [evQ] at h
    · cases hc
  case store t x y =>
    simp only [cOp, Option.bind_eq_bind, Option.bind_eq_some_iff, Option.some.injEq] at hc
    obtain ⟨_, _, _, _, _, _, rfl⟩ := hc; simp [evQ] at h
  case makeMap t r' =>
    simp only [cOp] at hc
    split at hc
    · simp only [Option.bind_eq_bind, Option.bind_eq_some_iff, Option.some.injEq] at hc
      obtain ⟨_, _, rfl⟩ := hc; simp [evQ] at h
    · cases hc
  case makeSlice t n c =>
    simp only [cOp] at hc
    split at hc
    · simp only [Option.bind_eq_bind, Option.bind_eq_some_iff, Option.some.injEq] at hc
      obtain ⟨_, _, _, _, _, _, _, _, _, _, rfl⟩ := hc; simp [evQ] at h
    · cases hc
  case mapUpdate t m k x =>
    simp only [cOp] at hc
    split at hc
    · simp only [Option.bind_eq_bind, Option.bind_eq_some_iff, Option.some.injEq] at hc
      obtain ⟨_, _, _, _, _, _, _, _, rfl⟩ := hc; simp [evQ] at h
    · cases hc
  case insert t m k x =>
    simp only [cOp] at hc
    split at hc
    · simp only [Option.bind_eq_bind, Option.bind_eq_some_iff, Option.some.injEq] at hc
      obtain ⟨_, _, _, _, _, _, _, _, rfl⟩ := hc; simp [evQ] at h
    · cases hc
  case range t x =>
    simp only [cOp] at hc
    split at hc
    · simp only [Option.bind_eq_bind, Option.bind_eq_some_iff, Option.some.injEq] at hc
      obtain ⟨_, _, rfl⟩ := hc; simp [evQ] at h
    · cases hc
  case next x b =>
    cases b
    · simp only [cOp, Option.bind_eq_bind, Option.bind_eq_some_iff, Option.some.injEq] at hc
      obtain ⟨_, _, rfl⟩ := hc; simp [evQ] at h
    · simp [cOp] at hc
  all_goals (simp [cOp] at hc)
end
end Go.Aiv

namespace Go.Aiv

def upd (ob : Obs) (id : Id) (o : O) : Obs := fun x => if x = id then some o else ob x
def updR (ρ : Rho) (id : Id) (r : Option (Nat × Nat)) : Rho := ⟨fun x => if x = id then r else ρ x, ρ.Y⟩

theorem obj_newObj (s : St) (o : O) : (newObj s o).obj? = upd s.obj? (.l s.loc.length) o := by
  funext id
  cases id with
  | l i =>
    simp only [St.obj?, obj?, newObj, upd]
    by_cases h : i = s.loc.length
    · subst h; simp
    · have : ¬ (Id.l i = Id.l s.loc.length) := by intro e; cases e; exact h rfl
      rw [if_neg this]
      rw [List.getElem?_append]
      split
      · rfl
      · rw [List.getElem?_eq_none (by omega : s.loc.length ≤ i), List.getElem?_eq_none (by simp; omega)]
  | o i => simp [St.obj?, obj?, newObj, upd]

theorem obj_setObj (s : St) (id : Id) (o o0 : O) (h : s.obj? id = some o0) : (s.setObj id o).obj? = upd s.obj? id o := by
  funext x
  cases id with
  | l i =>
    have hi : i < s.loc.length := getElem?_lt h
    cases x with
    | l j =>
      simp only [St.obj?, obj?, St.setObj, upd]
      by_cases hj : j = i
      · subst hj; simp [hi]
      · have : ¬ (Id.l j = Id.l i) := by intro e; cases e; exact hj rfl
        rw [if_neg this, List.getElem?_set_ne (by omega)]
    | o j => simp [St.obj?, obj?, St.setObj, upd]
  | o i =>
    have hi : i < s.out.length := getElem?_lt h
    cases x with
    | o j =>
      simp only [St.obj?, obj?, St.setObj, upd]
      by_cases hj : j = i
      · subst hj; simp [hi]
      · have : ¬ (Id.o j = Id.o i) := by intro e; cases e; exact hj rfl
        rw [if_neg this, List.getElem?_set_ne (by omega)]
    | l j => simp [St.obj?, obj?, St.setObj, upd]

theorem obj_new_none (s : St) : s.obj? (.l s.loc.length) = none := by simp [St.obj?, obj?]

section
variable {F : List (Nat × Nat)} {w w' : World} {ρ ρ' : Rho} {ob ob' : Obs} {P : Program}

theorem upd_same (id : Id) (o : O) : upd ob id o id = some o := by simp [upd]
theorem upd_ne {id x : Id} (h : x ≠ id) (o : O) : upd ob id o x = ob x := by simp [upd, h]
theorem updR_same (id : Id) (r : Option (Nat × Nat)) : updR ρ id r id = r := by simp [updR]
theorem updR_ne {id x : Id} (h : x ≠ id) (r : Option (Nat × Nat)) : updR ρ id r x = ρ x := by simp [updR, h]

theorem held_lt (hH : HRel F w ρ ob) {id : Id} {o : O} {b c : Nat} (ho : ob id = some o) (hh : held o = true) (hρ : ρ id = some (b, c)) : b < w.heap.size := by
  have hr := hH.objs id o ho
  have lt : ∀ {x : Obj}, w.heap[b]? = some x → b < w.heap.size := fun h => (Array.getElem?_eq_some_iff.1 h).1
  have row : ∀ sz es, RepRow w ρ ob id sz es → b < w.heap.size := by
    rintro sz es ⟨_, ⟨h1, _⟩ | ⟨b', cap, cur, ty, h1, h2, _⟩⟩
    · rw [hρ] at h1; cases h1
    · rw [hρ] at h1; cases h1; exact lt h2
  have mp : ∀ kvs, RepMap w ρ ob id kvs → b < w.heap.size := by
    rintro kvs ⟨b', c', ents, clock, h1, h2, _⟩
    rw [hρ] at h1; cases h1; exact lt h2
  cases o with
  | box cs => obtain ⟨b', c', cur, ty, h1, h2, _⟩ := hr; rw [hρ] at h1; cases h1; exact lt h2
  | row sz es => exact row sz es hr
  | fro sz es => exact row sz es hr
  | map kvs => exact mp kvs hr
  | lock kvs => exact mp kvs hr
  | iter m left cur => obtain ⟨b', c', mb, cm, ents, clock, seen, h1, _, _, _, h5, _⟩ := hr; rw [hρ] at h1; cases h1; exact lt h5
  | dead => cases hh

theorem live_held {o : O} (h : live o = true) : held o = true := by cases o <;> first | rfl | cases h

theorem Step.of_heap (h : w'.heap = w.heap) : Step w ρ ob w' ρ ob :=
  ⟨by rw [h]; exact Nat.le_refl _, fun b _ _ => by rw [h], fun _ _ h => h, fun _ _ => rfl, fun _ h => h, fun _ _ es _ h => ⟨es, h⟩, rfl⟩

/-- Some objects have changed; the others stand as they stood. -/
theorem HRel.change (hH : HRel F w ρ ob) (st : Step w ρ ob w' ρ' ob') (ch : Id → Prop)
    (hob : ∀ id, ¬ ch id → ob' id = ob id)
    (hbl : ∀ id o b c, ¬ ch id → ob id = some o → held o = true → ρ id = some (b, c) → w'.heap[b]? = w.heap[b]?)
    (hlock : ∀ m kvs, ob m = some (.lock kvs) → ¬ ch m)
    (hrep : ∀ id o, ch id → ob' id = some o → RepO F w' ρ' ob' id o)
    (hinj : ∀ id id' o o' b c c', ch id ∨ ch id' → ob' id = some o → live o = true → ob' id' = some o' → held o' = true → ρ' id = some (b, c) → ρ' id' = some (b, c') → id = id')
    (hy : ∀ id o b c, ch id → ob' id = some o → held o = true → ρ' id = some (b, c) → ¬ ρ.Y b) :
    HRel F w' ρ' ob' := by
  refine ⟨?_, ?_, fun id o b c h1 h2 h3 => ?_, fun b h => by rw [st.yy] at h; exact Nat.lt_of_lt_of_le (hH.yb b h) st.size⟩
  rotate_left 2
  · rw [st.yy]
    by_cases hc : ch id
    · exact hy id o b c hc h1 h2 h3
    · rw [hob id hc] at h1
      rw [st.rho id (by rw [h1]; rfl)] at h3
      exact hH.y id o b c h1 h2 h3
  · intro id o ho
    by_cases hc : ch id
    · exact hrep id o hc ho
    · have ho' : ob id = some o := by rw [← hob id hc]; exact ho
      cases hd : held o with
      | false => cases o <;> first | trivial | cases hd
      | true =>
        refine st.repO ho' (hH.objs id o ho') (fun b c hρ => hbl id o b c hc ho' hd hρ) (fun m left cur b c he hρ => ?_) (fun m left cur kvs he hm => ?_)
        · subst he
          obtain ⟨_, _, _, _, _, _, _, _, _, ⟨kvs, hm⟩, _⟩ := hH.objs id _ ho'
          exact hbl m _ b c (hlock m kvs hm) hm rfl hρ
        · rw [hob m (hlock m kvs hm)]; exact hm
  · intro id id' o o' b c c' h1 h2 h3 h4 h5 h6
    by_cases hc : ch id ∨ ch id'
    · exact hinj id id' o o' b c c' hc h1 h2 h3 h4 h5 h6
    · have n1 : ¬ ch id := fun h => hc (.inl h)
      have n2 : ¬ ch id' := fun h => hc (.inr h)
      rw [hob id n1] at h1
      rw [hob id' n2] at h3
      rw [st.rho id (by rw [h1]; rfl)] at h5
      rw [st.rho id' (by rw [h3]; rfl)] at h6
      exact hH.inj id id' o o' b c c' h1 h2 h3 h4 h5 h6

theorem HRel.of_heap (h : w'.heap = w.heap) (hH : HRel F w ρ ob) : HRel F w' ρ ob :=
  hH.change (Step.of_heap h) (fun _ => False) (fun _ _ => rfl) (fun _ _ _ _ _ _ _ _ => by rw [h]) (fun _ _ _ h => h) (fun _ _ h => h.elim) (fun _ _ _ _ _ _ _ h => by cases h <;> contradiction) (fun _ _ _ _ h => h.elim)

/-- A new object in a new block. -/
theorem step_alloc (hH : HRel F w ρ ob) {id : Id} (hid : ob id = none) (x : Obj) (cap : Nat) (o : O) :
    Step w ρ ob (w.alloc x) (updR ρ id (some (w.heap.size, cap))) (upd ob id o) := by
  have ne : ∀ i, (ob i).isSome = true → i ≠ id := by rintro i h rfl; rw [hid] at h; cases h
  refine ⟨by simp, fun b hb _ => heap_alloc_old w x hb, fun b hb hx => ?_, fun i h => updR_ne (ne i h) _, fun i h => by rw [upd_ne (ne i h)]; exact h, fun i sz es h he => ⟨es, ?_⟩, rfl⟩
  · obtain ⟨i, oo, c, h1, h2, h3⟩ := hx
    by_cases hi : i = id
    · subst hi; rw [updR_same] at h3; cases h3; omega
    · rw [upd_ne hi] at h1; rw [updR_ne hi] at h3
      exact ⟨i, oo, c, h1, h2, h3⟩
  · simp only [rowO, upd_ne (ne i h)] at he ⊢; exact he

theorem HRel.alloc (hH : HRel F w ρ ob) {id : Id} (hid : ob id = none) (x : Obj) (cap : Nat) (o : O)
    (hnew : RepO F (w.alloc x) (updR ρ id (some (w.heap.size, cap))) (upd ob id o) id o) :
    HRel F (w.alloc x) (updR ρ id (some (w.heap.size, cap))) (upd ob id o) := by
  refine hH.change (step_alloc hH hid x cap o) (· = id) (fun i h => upd_ne h o) (fun i oo b c _ h1 h2 h3 => heap_alloc_old w x (held_lt hH h1 h2 h3))
    (fun m kvs h e => by subst e; rw [hid] at h; cases h) (fun i oo hi ho => ?_) (fun i i' oo oo' b c c' hch h1 h2 h3 h4 h5 h6 => ?_) (fun i oo b c hi ho hh hr hy => ?_)
  · subst hi; rw [upd_same] at ho; cases ho; exact hnew
  · have lt : ∀ j q q' b c, j ≠ id → upd ob id o j = some q' → held q' = true → updR ρ id q j = some (b, c) → b < w.heap.size := fun j q q' b c hj hq hh hρ => by
      rw [upd_ne hj] at hq; rw [updR_ne hj] at hρ; exact held_lt hH hq hh hρ
    by_cases e1 : i = id <;> by_cases e2 : i' = id
    · rw [e1, e2]
    · subst e1
      rw [updR_same] at h5; cases h5
      have := lt i' _ _ _ _ e2 h3 h4 h6
      omega
    · subst e2
      rw [updR_same] at h6; cases h6
      have := lt i _ _ _ _ e1 h1 (live_held h2) h5
      omega
    · rcases hch with h | h
      · exact (e1 h).elim
      · exact (e2 h).elim
  · subst hi; rw [updR_same] at hr; cases hr
    exact Nat.lt_irrefl _ (hH.yb _ hy)

/-- A new row without memory. -/
theorem step_nil {id : Id} (hid : ob id = none) (sz : Nat) : Step w ρ ob w (updR ρ id none) (upd ob id (.row sz [])) := by
  have ne : ∀ i, (ob i).isSome = true → i ≠ id := by rintro i h rfl; rw [hid] at h; cases h
  refine ⟨Nat.le_refl _, fun b _ _ => rfl, fun b hb hx => ?_, fun i h => updR_ne (ne i h) _, fun i h => by rw [upd_ne (ne i h)]; exact h, fun i sz es h he => ⟨es, ?_⟩, rfl⟩
  · obtain ⟨i, oo, c, h1, h2, h3⟩ := hx
    by_cases hi : i = id
    · subst hi; rw [updR_same] at h3; cases h3
    · rw [upd_ne hi] at h1; rw [updR_ne hi] at h3
      exact ⟨i, oo, c, h1, h2, h3⟩
  · simp only [rowO, upd_ne (ne i h)] at he ⊢; exact he

theorem HRel.newNil (hH : HRel F w ρ ob) {id : Id} (hid : ob id = none) (sz : Nat) : HRel F w (updR ρ id none) (upd ob id (.row sz [])) := by
  refine hH.change (step_nil hid sz) (· = id) (fun i h => upd_ne h _) (fun _ _ _ _ _ _ _ _ => rfl)
    (fun m kvs h e => by subst e; rw [hid] at h; cases h) (fun i oo hi ho => ?_) (fun i i' oo oo' b c c' hch h1 h2 h3 h4 h5 h6 => ?_) (fun i oo b c hi ho hh hr => ?_)
  · subst hi; rw [upd_same] at ho; cases ho
    exact ⟨by simp, .inl ⟨updR_same _ _, rfl⟩⟩
  · rcases hch with h | h
    · subst h; rw [updR_same] at h5; cases h5
    · subst h; rw [updR_same] at h6; cases h6
  · subst hi; rw [updR_same] at hr; cases hr

/-- One object turns, in its own block or in none. -/
theorem step_set (hH : HRel F w ρ ob) {id : Id} {o o' : O} (hid : ob id = some o) (hl : live o' = true → live o = true)
    (hrow : ∀ sz es, o' = .row sz es ∨ o' = .fro sz es → ∃ es0, o = .row sz es0 ∨ o = .fro sz es0)
    (hs : w.heap.size ≤ w'.heap.size) (hk : ∀ b, b < w.heap.size → w'.heap[b]? = w.heap[b]? ∨ (live o = true ∧ ∃ c, ρ id = some (b, c))) :
    Step w ρ ob w' ρ (upd ob id o') := by
  refine ⟨hs, fun b hb hx => ?_, fun b hb hx => ?_, fun _ _ => rfl, fun i h => ?_, fun i sz es h he => ?_, rfl⟩
  · rcases hk b hb with h | ⟨h1, c, h2⟩
    · exact h
    · exact (hx ⟨id, o, c, hid, h1, h2⟩).elim
  · obtain ⟨i, oo, c, h1, h2, h3⟩ := hx
    by_cases hi : i = id
    · subst hi; rw [upd_same] at h1; cases h1; exact ⟨i, o, c, hid, hl h2, h3⟩
    · rw [upd_ne hi] at h1; exact ⟨i, oo, c, h1, h2, h3⟩
  · by_cases hi : i = id
    · subst hi; rw [upd_same]; rfl
    · rw [upd_ne hi]; exact h
  · by_cases hi : i = id
    · subst hi
      simp only [rowO, upd_same] at he
      split at he
      · rename_i sz' es' ho; cases ho; cases he
        rcases hrow _ _ (.inl rfl) with ⟨es0, h1 | h1⟩ <;> exact ⟨es0, by simp only [rowO, hid, h1]⟩
      · rename_i sz' es' ho; cases ho; cases he
        rcases hrow _ _ (.inr rfl) with ⟨es0, h1 | h1⟩ <;> exact ⟨es0, by simp only [rowO, hid, h1]⟩
      · cases he
    · exact ⟨es, by simp only [rowO, upd_ne hi] at he ⊢; exact he⟩

theorem HRel.set (hH : HRel F w ρ ob) {id : Id} {o o' : O} (hid : ob id = some o) (hl : live o' = true → live o = true) (hh : held o' = true → held o = true)
    (hrow : ∀ sz es, o' = .row sz es ∨ o' = .fro sz es → ∃ es0, o = .row sz es0 ∨ o = .fro sz es0)
    (hnl : ∀ kvs, o ≠ .lock kvs) (hs : w.heap.size ≤ w'.heap.size) (hk : ∀ b, b < w.heap.size → w'.heap[b]? = w.heap[b]? ∨ (live o = true ∧ ∃ c, ρ id = some (b, c)))
    (hnew : RepO F w' ρ (upd ob id o') id o') : HRel F w' ρ (upd ob id o') := by
  refine hH.change (step_set hH hid hl hrow hs hk) (· = id) (fun i h => upd_ne h _) (fun i oo b c hi h1 h2 h3 => ?_)
    (fun m kvs h e => by subst e; rw [hid] at h; cases h; exact hnl kvs rfl) (fun i oo hi ho => ?_) (fun i i' oo oo' b c c' hch h1 h2 h3 h4 h5 h6 => ?_)
    (fun i oo b c hi ho hhd hr => by subst hi; rw [upd_same] at ho; cases ho; exact hH.y i o b c hid (hh hhd) hr)
  · rcases hk b (held_lt hH h1 h2 h3) with h | ⟨h4, c', h5⟩
    · exact h
    · exact (hi (hH.inj id i o oo b c' c hid h4 h1 h2 h5 h3).symm).elim
  · subst hi; rw [upd_same] at ho; cases ho; exact hnew
  · have h1' : ∃ q, ob i = some q ∧ live q = true := by
      by_cases e : i = id
      · subst e; rw [upd_same] at h1; cases h1; exact ⟨o, hid, hl h2⟩
      · rw [upd_ne e] at h1; exact ⟨oo, h1, h2⟩
    have h3' : ∃ q, ob i' = some q ∧ held q = true := by
      by_cases e : i' = id
      · subst e; rw [upd_same] at h3; cases h3; exact ⟨o, hid, hh h4⟩
      · rw [upd_ne e] at h3; exact ⟨oo', h3, h4⟩
    obtain ⟨q, a1, a2⟩ := h1'
    obtain ⟨q', a3, a4⟩ := h3'
    exact hH.inj i i' q q' b c c' a1 a2 a3 a4 h5 h6

/-- A row is frozen. -/
theorem frzId_rep {s : St} (hH : HRel F w ρ s.obj?) (id : Id) : Step w ρ s.obj? w ρ (frzId s id).obj? ∧ HRel F w ρ (frzId s id).obj? := by
  unfold frzId
  split
  · rename_i sz es ho
    rw [obj_setObj s id _ _ ho]
    have st := step_set (w' := w) hH (o' := .fro sz es) ho (fun h => by cases h) (fun sz' es' h => by rcases h with h | h <;> cases h; exact ⟨es, .inl rfl⟩) (Nat.le_refl _) (fun b _ => .inl rfl)
    refine ⟨st, hH.set ho (fun h => by cases h) (fun _ => rfl) (fun sz' es' h => by rcases h with h | h <;> cases h; exact ⟨es, .inl rfl⟩) (fun kvs h => by cases h) (Nat.le_refl _) (fun b _ => .inl rfl) ?_⟩
    have hr : RepRow w ρ s.obj? id sz es := hH.objs id _ ho
    obtain ⟨h0, h⟩ := hr
    refine ⟨h0, ?_⟩
    rcases h with h | ⟨b, cap, cur, ty, h1, h2, h3, h4, h5, h6, h7⟩
    · exact .inl h
    · exact .inr ⟨b, cap, cur, ty, h1, h2, h3, h4, h5, h6, fun i j e d he hd => let ⟨v, hv, hr⟩ := h7 i j e d he hd; ⟨v, hv, st.repD hr⟩⟩
  · exact ⟨Step.refl _ _ _, hH⟩

theorem frzC_rep {s : St} (hH : HRel F w ρ s.obj?) (c : C) : Step w ρ s.obj? w ρ (frzC s c).obj? ∧ HRel F w ρ (frzC s c).obj? := by
  unfold frzC
  split
  · exact frzId_rep hH _
  · exact ⟨Step.refl _ _ _, hH⟩

theorem frzCs_rep : ∀ (cs : List C) {s : St}, HRel F w ρ s.obj? → Step w ρ s.obj? w ρ (cs.foldl frzC s).obj? ∧ HRel F w ρ (cs.foldl frzC s).obj?
  | [], s, hH => ⟨Step.refl _ _ _, hH⟩
  | c :: cs, s, hH => by
    obtain ⟨h1, h2⟩ := frzC_rep hH c
    obtain ⟨h3, h4⟩ := frzCs_rep cs h2
    exact ⟨h1.trans h3, h4⟩

theorem frzId_env (s : St) (id : Id) : (frzId s id).env = s.env ∧ (frzId s id).out.length = s.out.length ∧ (frzId s id).loc.length = s.loc.length := by
  unfold frzId
  split
  · cases id <;> simp [St.setObj]
  · exact ⟨rfl, rfl, rfl⟩
theorem frzC_env (s : St) (c : C) : (frzC s c).env = s.env ∧ (frzC s c).out.length = s.out.length ∧ (frzC s c).loc.length = s.loc.length := by
  unfold frzC
  split
  · exact frzId_env s _
  · exact ⟨rfl, rfl, rfl⟩
theorem frzCs_env : ∀ (cs : List C) (s : St), (cs.foldl frzC s).env = s.env ∧ (cs.foldl frzC s).out.length = s.out.length ∧ (cs.foldl frzC s).loc.length = s.loc.length
  | [], s => ⟨rfl, rfl, rfl⟩
  | c :: cs, s => by
    obtain ⟨h1, h2, h3⟩ := frzCs_env cs (frzC s c)
    obtain ⟨h4, h5, h6⟩ := frzC_env s c
    exact ⟨h1.trans h4, h2.trans h5, h3.trans h6⟩
end
end Go.Aiv

namespace Go.Aiv

def SameW (w w' : World) : Prop := w'.os = w.os ∧ w'.tape = w.tape ∧ w'.output = w.output

theorem SameW.refl (w : World) : SameW w w := ⟨rfl, rfl, rfl⟩
theorem SameW.trans {a b c : World} (h : SameW a b) (k : SameW b c) : SameW a c := ⟨k.1.trans h.1, k.2.1.trans h.2.1, k.2.2.trans h.2.2⟩

/-- From one abstract heap to the next. -/
structure Trans (F : List (Nat × Nat)) (s : St) (w : World) (ρ : Rho) (s' : St) (w' : World) (ρ' : Rho) : Prop where
  st : Step w ρ s.obj? w' ρ' s'.obj?
  H : HRel F w' ρ' s'.obj?
  env : s'.env = s.env
  out : s'.out.length = s.out.length
  same : SameW w w'

section
variable {F : List (Nat × Nat)} {w w' w'' : World} {ρ ρ' ρ'' : Rho} {P : Program} {s s' s'' : St}

theorem Trans.refl (hH : HRel F w ρ s.obj?) : Trans F s w ρ s w ρ := ⟨Step.refl _ _ _, hH, rfl, rfl, SameW.refl _⟩
theorem Trans.trans (h : Trans F s w ρ s' w' ρ') (k : Trans F s' w' ρ' s'' w'' ρ'') : Trans F s w ρ s'' w'' ρ'' :=
  ⟨h.st.trans k.st, k.H, k.env.trans h.env, k.out.trans h.out, h.same.trans k.same⟩

theorem Trans.alloc (hH : HRel F w ρ s.obj?) (x : Obj) (cap : Nat) (o : O)
    (hnew : RepO F (w.alloc x) (updR ρ (.l s.loc.length) (some (w.heap.size, cap))) (newObj s o).obj? (.l s.loc.length) o) :
    Trans F s w ρ (newObj s o) (w.alloc x) (updR ρ (.l s.loc.length) (some (w.heap.size, cap))) := by
  rw [obj_newObj] at hnew
  refine ⟨?_, ?_, rfl, rfl, ⟨rfl, rfl, rfl⟩⟩
  · rw [obj_newObj]; exact step_alloc hH (obj_new_none s) x cap o
  · rw [obj_newObj]; exact hH.alloc (obj_new_none s) x cap o hnew

theorem new_obj? (s : St) (o : O) : (newObj s o).obj? (.l s.loc.length) = some o := by rw [obj_newObj, upd_same]

/-- 'alloc': a box of zeros. -/
theorem op_alloc {t : TypeId} {zero : List C} (hz : zeroC P t = some zero) (hH : HRel F w ρ s.obj?) :
    ∃ w' ρ' v, (Instr.alloc t true (.tuple #[])).run P w = .ok v w' ∧ Trans F s w ρ (newObj s (.box zero)) w' ρ' ∧
      RepAV F w' ρ' (newObj s (.box zero)).obj? (.v (.c (.ptr (.l s.loc.length) 0))) v := by
  simp only [zeroC, Option.bind_eq_bind, Option.bind_eq_some_iff] at hz
  obtain ⟨i, hi, zv, hzv, u, hu, hcs⟩ := hz
  split at hcs
  · simp only [Option.some.injEq] at hcs
    subst hcs
    refine ⟨w.alloc (.cells zv.cells t), _, .pointer (some ⟨w.heap.size, 0, none⟩), ?_, Trans.alloc hH (.cells zv.cells t) 0 (.box u.cells) ?_, ?_⟩
    · simp [Instr.alloc, zeroValue, typeInfo, hi, hzv, newVar, newRow]
    · exact ⟨w.heap.size, 0, zv.cells, t, updR_same _ _, heap_alloc_new w _, (constV_rep hu).cells⟩
    · exact ⟨by rw [new_obj?]; rfl, w.heap.size, 0, updR_same _ _, rfl⟩
  · cases hcs

/-- 'box' -/
theorem op_box {t : TypeId} {x : V} {vx : Value} (hx : RepV F w ρ s.obj? x vx) (hH : HRel F w ρ s.obj?) :
    ∃ w' ρ' v, (Instr.box t vx).run P w = .ok v w' ∧ Trans F s w ρ (newObj s (.box x.cells)) w' ρ' ∧
      RepAV F w' ρ' (newObj s (.box x.cells)).obj? (.v (.c (.ptr (.l s.loc.length) 0))) v := by
  have st := step_alloc hH (obj_new_none s) (.cells vx.cells t) 0 (.box x.cells)
  rw [← obj_newObj] at st
  refine ⟨w.alloc (.cells vx.cells t), _, .pointer (some ⟨w.heap.size, 0, none⟩), ?_, Trans.alloc hH (.cells vx.cells t) 0 (.box x.cells) ?_, ?_⟩
  · simp [Instr.box, newVar, newRow]
  · exact ⟨w.heap.size, 0, vx.cells, t, updR_same _ _, heap_alloc_new w _, (st.repV hx).cells⟩
  · exact ⟨by rw [new_obj?]; rfl, w.heap.size, 0, updR_same _ _, rfl⟩

/-- The cells of a row. -/
def RowVs (w : World) (X : Nat → Prop) (sz : Nat) (es : Row) (vs : List Value) : Prop :=
  vs.length = es.length * sz ∧ (∀ e ∈ es, e.length = sz) ∧ ∀ (i j : Nat) e d, es[i]? = some e → e[j]? = some d → ∃ v, vs[i * sz + j]? = some v ∧ RepD w X d v

theorem mul_lt {i j sz n : Nat} (hi : i < n) (hj : j < sz) : i * sz + j < n * sz := by
  have : (i + 1) * sz ≤ n * sz := Nat.mul_le_mul_right sz hi
  rw [Nat.add_mul] at this
  omega

theorem RowVs.set {X : Nat → Prop} {sz : Nat} {es : Row} {vs ns : List Value} {i : Nat} {ds : List D} (h : RowVs w X sz es vs) (hi : i < es.length) (hd : ds.length = sz) (hn : All2 (RepD w X) ds ns) :
    RowVs w X sz (es.set i ds) (setAt (i * sz) ns vs) := by
  obtain ⟨h1, h2, h3⟩ := h
  have hns : ns.length = sz := by rw [← hn.1, hd]
  have hle : i * sz + sz ≤ vs.length := by
    have : (i + 1) * sz ≤ es.length * sz := Nat.mul_le_mul_right sz hi
    rw [Nat.add_mul] at this; omega
  refine ⟨?_, ?_, ?_⟩
  · simp only [setAt, List.length_append, List.length_take, List.length_drop, List.length_set]; omega
  · intro e he
    rcases List.mem_or_eq_of_mem_set he with h | h
    · exact h2 e h
    · rw [h]; exact hd
  · intro i' j e d he hd'
    simp only [setAt]
    rw [List.getElem?_set] at he
    have hj : j < sz := by
      split at he
      · cases he; have := getElem?_lt hd'; omega
      · have := h2 e (List.mem_of_getElem? he); have := getElem?_lt hd'; omega
    split at he
    · rename_i hii
      subst hii
      cases he
      obtain ⟨u, hu, hr⟩ := hn.get hd'
      refine ⟨u, ?_, hr⟩
      rw [List.getElem?_append_left (by simp; omega), List.getElem?_append_right (by simp; omega)]
      simp only [List.length_take]
      rw [show i * sz + j - min (i * sz) vs.length = j by omega]
      exact hu
    · rename_i hii
      obtain ⟨u, hu, hr⟩ := h3 i' j e d he hd'
      refine ⟨u, ?_, hr⟩
      rcases Nat.lt_or_gt_of_ne hii with hlt | hgt
      · have : (i + 1) * sz ≤ i' * sz := Nat.mul_le_mul_right sz hlt
        rw [Nat.add_mul] at this
        rw [List.getElem?_append_right (by simp; omega), List.getElem?_drop]
        simp only [List.length_append, List.length_take, hns]
        rw [← hu]; congr 1; omega
      · have := mul_lt hgt hj
        rw [List.getElem?_append_left (by simp; omega), List.getElem?_append_left (by simp; omega), List.getElem?_take, if_pos this]
        exact hu

theorem fillR_rep {X : Nat → Prop} {sz : Nat} : ∀ (parts : List (Nat × Value)) (cparts : List (Nat × Opd)) (es out : Row) (arr : Array Value),
    HRel F w ρ s.obj? → X = XOf ρ s.obj? →
    All2 (fun (p : Nat × Value) (q : Nat × Opd) => p.1 = q.1 ∧ RepAV F w ρ s.obj? (s.opd q.2) p.2) parts cparts →
    buildR s sz es cparts = some out → RowVs w X sz es arr.toList →
    ∃ arr', Instr.fill (fun i => some (i * sz, sz)) arr parts = some arr' ∧ RowVs w X sz out arr'.toList ∧ out.length = es.length
  | [], cparts, es, out, arr, hH, hX, hp, hb, hc => by
    have : cparts = [] := List.eq_nil_of_length_eq_zero hp.1.symm
    subst this
    simp only [buildR, Option.some.injEq] at hb
    subst hb
    exact ⟨arr, rfl, hc, rfl⟩
  | p :: parts, cparts, es, out, arr, hH, hX, hp, hb, hc => by
    obtain ⟨q, cparts', rfl, ⟨hpl, hr⟩, hp'⟩ := hp.consL
    obtain ⟨i, x⟩ := q
    simp only [buildR] at hb
    split at hb
    · rename_i v hv
      simp only at hr
      rw [hv] at hr
      have hr' : RepV F w ρ s.obj? v p.2 := hr
      split at hb
      · rename_i ds hds
        split at hb
        · rename_i hcond
          obtain ⟨i', u⟩ := p
          simp only at hpl hr'
          subst hpl
          have hsz := hr'.size
          have hdl := (mapO_some hds).1
          have hle : i' * sz + sz ≤ arr.size := by
            have h1 := hc.1
            have : (i' + 1) * sz ≤ es.length * sz := Nat.mul_le_mul_right sz hcond.2
            rw [Nat.add_mul] at this
            simp at h1; omega
          have hset : (u.cells.zipIdx.foldl (fun cs (c, j) => cs.setIfInBounds (i' * sz + j) c) arr).toList = setAt (i' * sz) u.cells.toList arr.toList := by
            have := foldl_setAt u.cells.toList 0 (i' * sz) arr (by simp; omega)
            rw [← Array.foldl_toList, Array.toList_zipIdx]
            simpa using this
          obtain ⟨arr', h1, h2, h3⟩ := fillR_rep parts cparts' _ out (u.cells.zipIdx.foldl (fun cs (c, j) => cs.setIfInBounds (i' * sz + j) c) arr) hH hX hp' hb (by
            rw [hset]
            exact hc.set hcond.2 hcond.1 (by rw [hX]; exact toDs_rep hH hds hr'.cells))
          refine ⟨arr', ?_, h2, by simpa using h3⟩
          simp only [Instr.fill]
          rw [if_neg (by simp; omega)]
          exact h1
        · cases hb
      · cases hb
    · cases hb

theorem dataC_rep {X : Nat → Prop} {c : C} {d : D} {v : Value} (h : dataC c = some d) (hr : ∃ u : Value, constC u = some c ∧ u = v) : RepD w X d v := by
  obtain ⟨u, hu, rfl⟩ := hr
  unfold constC at hu
  split at hu <;> cases hu <;> simp only [dataC, Option.some.injEq] at h <;> subst h
  · exact .int _ _
  · exact .bool _
  · exact .str _ _ rfl
  · exact .vec0 _ _
  · exact .nm
  · exact .np
  · exact .nf

/-- The zero of an element type, as data. -/
theorem zeroD_rep {e : TypeId} {zero : List D} (hz : (do mapO dataC (← zeroC P e) : Option (List D)) = some zero) (X : Nat → Prop) :
    ∃ i zv, P.info? e = some i ∧ i.zero = some zv ∧ i.size = zero.length ∧ All2 (RepD w X) zero zv.cells.toList := by
  simp only [Option.bind_eq_bind, Option.bind_eq_some_iff, zeroC] at hz
  obtain ⟨cs, ⟨i, hi, zv, hzv, u, hu, hcs⟩, hm⟩ := hz
  split at hcs
  · rename_i hl
    simp only [Option.some.injEq] at hcs
    subst hcs
    have hml := (mapO_some hm).1
    refine ⟨i, zv, hi, hzv, by omega, ?_⟩
    have hcells : ∀ (k : Nat) c, u.cells[k]? = some c → ∃ x, zv.cells[k]? = some x ∧ constC x = some c := by
      intro k c hk
      unfold constV at hu
      split at hu
      · rename_i arr
        cases hmm : mapO constC arr.toList with
        | none => simp [hmm] at hu
        | some l =>
          simp only [hmm, Option.map_some, Option.some.injEq] at hu
          subst hu
          obtain ⟨x, hx, hf⟩ := mapO_some' hmm k c hk
          exact ⟨x, by simpa [Value.cells] using hx, hf⟩
      · rename_i hna
        cases hcc : constC zv with
        | none => simp [hcc] at hu
        | some c' =>
          simp only [hcc, Option.map_some, Option.some.injEq] at hu
          subst hu
          have hone : zv.cells = #[zv] := by cases zv <;> first | rfl | (exact (hna _ rfl).elim)
          cases k with
          | zero => simp [V.cells] at hk; subst hk; exact ⟨zv, by rw [hone]; rfl, hcc⟩
          | succ k => simp [V.cells] at hk
    refine ⟨?_, fun k d v hd hv => ?_⟩
    · have h1 := (constV_rep (F := []) (w := w) (ρ := ⟨fun _ => none, fun _ => False⟩) (ob := fun _ => none) hu).size
      simp; omega
    · obtain ⟨c, hc, hf⟩ := mapO_some' hm k d hd
      obtain ⟨x, hx, hcx⟩ := hcells k c hc
      simp only [Array.getElem?_toList] at hv
      rw [hv] at hx; cases hx
      exact dataC_rep hf ⟨_, hcx, rfl⟩
  · cases hcs

theorem RowVs.zeros {X : Nat → Prop} {zero : List D} {zs : Array Value} (len : Nat) (h : All2 (RepD w X) zero zs.toList) :
    RowVs w X zero.length (List.replicate len zero) ((Array.range (len * zero.length)).map (zs[· % zs.size]!)).toList := by
  have hs : zs.size = zero.length := by have := h.1; simp at this; omega
  refine ⟨by simp, fun e he => by rw [List.eq_of_mem_replicate he], fun i j e d he hd => ?_⟩
  rw [List.getElem?_replicate] at he
  split at he
  · rename_i hi
    cases he
    obtain ⟨u, hu, hr⟩ := h.get hd
    have hj := getElem?_lt hd
    refine ⟨u, ?_, hr⟩
    have hlt := mul_lt hi hj
    have hmod : (i * zero.length + j) % zero.length = j := by rw [Nat.mul_comm, Nat.mul_add_mod]; exact Nat.mod_eq_of_lt hj
    simp only [Array.getElem?_toList, Array.getElem?_map, Array.getElem?_range, hlt, if_true, Option.map_some, hs, hmod, Option.some.injEq]
    simp only [Array.getElem?_toList] at hu
    have hj' : j < zs.size := by omega
    rw [getElem!_pos zs j hj']
    rw [Array.getElem?_eq_getElem hj'] at hu
    exact Option.some.inj hu
  · cases he

theorem RowVs.row {X : Nat → Prop} {sz : Nat} {es : Row} {cur : Array Value} (h : RowVs w X sz es cur.toList) : cur.size = es.length * sz := by have := h.1; simpa using this

theorem RowVs.step {ob : Obs} {ob' : Obs} (st : Step w ρ ob w' ρ' ob') {sz : Nat} {es : Row} {vs : List Value} (h : RowVs w (XOf ρ ob) sz es vs) : RowVs w' (XOf ρ' ob') sz es vs :=
  ⟨h.1, h.2.1, fun i j e d he hd => let ⟨v, hv, hr⟩ := h.2.2 i j e d he hd; ⟨v, hv, st.repD hr⟩⟩

/-- A row of the call's own, just made. -/
theorem newRow_trans {sz : Nat} {es : Row} {cur : Array Value} {ty : TypeId} {cap : Nat} (hH : HRel F w ρ s.obj?) (hsz : 0 < sz) (hcap : es.length ≤ cap) (hmax : cap ≤ maxLen) (hcs : cur.size = cap * sz)
    (hes : ∀ e ∈ es, e.length = sz)
    (hc : ∀ (i j : Nat) e d, es[i]? = some e → e[j]? = some d → ∃ v, cur[i * sz + j]? = some v ∧ RepD w (XOf ρ s.obj?) d v) :
    Trans F s w ρ (newObj s (.row sz es)) (w.alloc (.cells cur ty)) (updR ρ (.l s.loc.length) (some (w.heap.size, cap))) ∧
      RepAV F (w.alloc (.cells cur ty)) (updR ρ (.l s.loc.length) (some (w.heap.size, cap))) (newObj s (.row sz es)).obj? (.v (.c (.sl (.l s.loc.length) 0 es.length)))
        (.slice (some ⟨w.heap.size, 0, none⟩) es.length cap) := by
  have st := step_alloc hH (obj_new_none s) (.cells cur ty) cap (.row sz es)
  rw [← obj_newObj] at st
  refine ⟨Trans.alloc hH (.cells cur ty) cap (.row sz es) ⟨hes, .inr ⟨w.heap.size, cap, cur, ty, updR_same _ _, heap_alloc_new w _, hcs, hcap, hmax, hsz, fun i j e d he hd => ?_⟩⟩, ?_⟩
  · obtain ⟨v, hv, hr⟩ := hc i j e d he hd
    exact ⟨v, hv, st.repD hr⟩
  · refine ⟨by rw [new_obj?]; rfl, ⟨_, _, rfl⟩, fun sz' es' he => ?_⟩
    simp only [SlAt, updR_same]
    exact ⟨fun _ => trivial, fun h => (h rfl).elim⟩

/-- 'bslice' -/
theorem op_bslice {t e : TypeId} {zero : List D} {len : Nat} {parts : List (Nat × Value)} {cparts : List (Nat × Opd)} {es : Row} (ht : P.underlying t = some (.slice e))
    (hz : (do mapO dataC (← zeroC P e) : Option (List D)) = some zero) (hH : HRel F w ρ s.obj?)
    (hp : All2 (fun (p : Nat × Value) (q : Nat × Opd) => p.1 = q.1 ∧ RepAV F w ρ s.obj? (s.opd q.2) p.2) parts cparts)
    (hb : buildR s zero.length (List.replicate len zero) cparts = some es) (hlen : len * zero.length ≤ 65536) (hpos : 0 < zero.length) :
    ∃ w' cur, (Instr.buildSlice t len parts.toArray).run P w = .ok (.slice (some ⟨w.heap.size, 0, none⟩) len len) w' ∧ w' = w.alloc (.cells cur e) ∧
      RowVs w (XOf ρ s.obj?) zero.length es cur.toList ∧ es.length = len := by
  obtain ⟨i, zv, hi, hzv, hsize, hrep⟩ := zeroD_rep (w := w) hz (XOf ρ s.obj?)
  have h0 := RowVs.zeros len hrep
  obtain ⟨arr', h1, h2, h3⟩ := fillR_rep parts cparts _ es _ hH rfl hp hb h0
  refine ⟨_, arr', ?_, rfl, h2, by simpa using h3⟩
  have hsz : zv.cells.size = zero.length := by have := hrep.1; simp at this; omega
  have hbig : ¬ len * zero.length > 16777216 := by omega
  by_cases hl0 : len = 0
  · subst hl0
    have hfill : Instr.fill (fun i => some (i * zero.length, zero.length)) #[] parts = some arr' := by
      have : ((Array.range (0 * zero.length)).map (zv.cells[· % zv.cells.size]!)) = #[] := by simp
      rw [this] at h1; exact h1
    have e0 : ∀ f : Nat → Value, Array.map f (Array.range 0) = #[] := fun f => Array.eq_empty_of_size_eq_zero (by simp)
    simp [Instr.buildSlice, run_underlying ht, sizeOf, typeInfo, hi, hsize, newRow, e0, hfill]
  · have hne : ¬ (len = 0 ∨ zero = []) := by
      rintro (h | h)
      · exact hl0 h
      · rw [h] at hpos; simp at hpos
    have hb2 : ¬ (16777216 < len * zero.length) := by omega
    have hne2 : ¬ (len * zero.length = 0) := fun h => hne ((Nat.mul_eq_zero.1 h).imp id List.eq_nil_of_length_eq_zero)
    simp [Instr.buildSlice, run_underlying ht, sizeOf, typeInfo, hi, hsize, zeroValue, hzv, newRow, hb2, hne, hne2, h1]
end
end Go.Aiv

namespace Go.Aiv

section
variable {F : List (Nat × Nat)} {w w' w'' : World} {ρ ρ' ρ'' : Rho} {ob : Obs} {P : Program} {s s' s'' : St}

theorem okSz_spec {sz : Nat} {es : Row} (h : okSz sz es = true) : ∀ e ∈ es, e.length = sz := fun e he => by
  have := List.all_eq_true.1 h e he
  simpa using this

theorem cell_heap (h : w'.heap = w.heap) (a : Addr) : w'.cell? a = w.cell? a := by simp [World.cell?, h]

/-- The cells of a slice, as the model loads them. -/
theorem lies_first {X : Nat → Prop} {es : Row} {v : Value} {sz : Nat} (h : Lies w X es v) (hsz : okSz sz es = true) :
    ∃ vs : List Value, RowVs w X sz es vs ∧ (Builtin.lenOf v).run P w = .ok es.length w ∧ ∀ w' n, w'.heap = w.heap → n ≤ es.length → (Builtin.firstCells sz n v).run P w' = .ok (vs.take (n * sz)).toArray w' := by
  obtain ⟨a, cap, rfl, _, hl⟩ := h
  have hlen : (Builtin.lenOf (.slice a es.length cap)).run P w = .ok es.length w := by simp [Builtin.lenOf]
  rcases hl with rfl | ⟨b, off, sz', rfl, hb, hsz', hc⟩
  · refine ⟨[], ⟨by simp, by simp, fun i j e d he => by simp at he⟩, hlen, fun w' n _ hn => ?_⟩
    have : n = 0 := by simpa using hn
    subst this
    cases a with
    | none => simp [Builtin.firstCells]
    | some a => simp [Builtin.firstCells, loadCells, loadCellsFrom]
  · let f : Nat → Value := fun k => (w.cell? ⟨b, off + k, none⟩).getD undef
    have hcell : ∀ (i j : Nat) e d, es[i]? = some e → e[j]? = some d → w.cell? ⟨b, off + (i * sz + j), none⟩ = some (f (i * sz + j)) ∧ RepD w X d (f (i * sz + j)) := by
      intro i j e d he hd
      have hee : sz' = sz := by rw [← hsz' e (List.mem_of_getElem? he), okSz_spec hsz e (List.mem_of_getElem? he)]
      subst hee
      obtain ⟨u, hu, hr⟩ := hc i j e d he hd
      rw [show off + (i * sz' + j) = off + i * sz' + j by omega]
      simp only [f, show off + (i * sz' + j) = off + i * sz' + j by omega, hu, Option.getD_some]
      exact ⟨trivial, hr⟩
    have hall : ∀ k, k < es.length * sz → w.cell? ⟨b, off + k, none⟩ = some (f k) := by
      intro k hk
      have hpos : 0 < sz := Nat.pos_of_ne_zero fun h => by subst h; simp at hk
      have hi : k / sz < es.length := Nat.div_lt_of_lt_mul (by rw [Nat.mul_comm]; exact hk)
      have hj : k % sz < sz := Nat.mod_lt _ hpos
      have he := List.getElem?_eq_getElem hi
      have hel := okSz_spec hsz _ (List.mem_of_getElem? he)
      have hd := List.getElem?_eq_getElem (l := es[k / sz]) (i := k % sz) (by rw [hel]; exact hj)
      have := (hcell _ _ _ _ he hd).1
      rw [show k / sz * sz + k % sz = k by rw [Nat.mul_comm]; exact Nat.div_add_mod k sz] at this
      exact this
    refine ⟨(List.range (es.length * sz)).map f, ⟨by simp, okSz_spec hsz, fun i j e d he hd => ?_⟩, hlen, fun w' n hh hn => ?_⟩
    · have hj := getElem?_lt hd
      rw [okSz_spec hsz e (List.mem_of_getElem? he)] at hj
      have hlt := mul_lt (getElem?_lt he) hj
      exact ⟨_, by rw [List.getElem?_map, List.getElem?_range hlt]; rfl, (hcell i j e d he hd).2⟩
    · have hle : n * sz ≤ es.length * sz := Nat.mul_le_mul_right sz hn
      have := run_loadCells (P := P) w' ⟨b, off, none⟩ (n * sz) f (fun k hk => by rw [addr_add, cell_heap hh]; exact hall k (by omega))
      simp only [Builtin.firstCells, this]
      congr 2
      rw [← List.map_take, List.take_range, Nat.min_eq_left hle]

/-- The bytes of a string, as the model appends them. -/
theorem str_first {X : Nat → Prop} (b : ByteArray) : RowVs w X 1 (b.data.toList.map fun c => [D.int .u8 c.toNat]) (b.data.toList.map fun c => Value.int .u8 c.toNat) ∧
    (Builtin.lenOf (.string b)).run P w = .ok b.data.toList.length w ∧ ∀ w' sz n, n ≤ b.data.toList.length → (Builtin.firstCells sz n (.string b)).run P w' = .ok ((b.data.toList.map fun c => Value.int .u8 c.toNat).take (n * 1)).toArray w' := by
  refine ⟨⟨by simp, fun e he => ?_, fun i j e d he hd => ?_⟩, ?_, fun w' sz n hn => ?_⟩
  · simp only [List.mem_map] at he
    obtain ⟨c, _, rfl⟩ := he; rfl
  · simp only [List.getElem?_map, Option.map_eq_some_iff] at he
    obtain ⟨c, hc, rfl⟩ := he
    cases j with
    | zero =>
      simp at hd; subst hd
      exact ⟨.int .u8 c.toNat, by simp [hc], .int _ _⟩
    | succ j => simp at hd
  · simp only [Builtin.lenOf, Sem.run_pure, size_data]
  · simp only [Builtin.firstCells, Sem.run_pure]
    congr 1
    apply Array.toList_inj.1
    have h2 : b.extract 0 n = ByteArray.mk ((b.data.toList.drop 0).take (n - 0)).toArray := by rw [← ByteArray.extract_mk b.data.toList 0 n]
    rw [h2]
    simp [List.map_take]

theorem RowVs.append {X : Nat → Prop} {sz : Nat} {es fs : Row} {vs us : List Value} (h : RowVs w X sz es vs) (k : RowVs w X sz fs us) : RowVs w X sz (es ++ fs) (vs ++ us) := by
  refine ⟨by rw [List.length_append, List.length_append, Nat.add_mul, h.1, k.1], fun e he => (List.mem_append.1 he).elim (h.2.1 e) (k.2.1 e), fun i j e d he hd => ?_⟩
  have hj : j < sz := by
    have h1 := getElem?_lt hd
    have h2 : e.length = sz := (List.mem_append.1 (List.mem_of_getElem? he)).elim (h.2.1 e) (k.2.1 e)
    omega
  rw [List.getElem?_append] at he
  split at he
  · rename_i hi
    obtain ⟨u, hu, hr⟩ := h.2.2 i j e d he hd
    exact ⟨u, by rw [List.getElem?_append_left (by rw [h.1]; exact mul_lt hi hj)]; exact hu, hr⟩
  · rename_i hi
    obtain ⟨u, hu, hr⟩ := k.2.2 (i - es.length) j e d he hd
    refine ⟨u, ?_, hr⟩
    have hle : es.length * sz ≤ i * sz := Nat.mul_le_mul_right sz (by omega)
    rw [List.getElem?_append_right (by rw [h.1]; omega), h.1, ← hu]
    congr 1
    rw [Nat.sub_mul]; omega

theorem RowVs.take {X : Nat → Prop} {sz n : Nat} {es : Row} {vs : List Value} (h : RowVs w X sz es vs) : RowVs w X sz (es.take n) (vs.take (n * sz)) := by
  have hl : (es.take n).length * sz = min (n * sz) (es.length * sz) := by
    rw [List.length_take]
    rcases Nat.le_total n es.length with h1 | h1
    · rw [Nat.min_eq_left h1, Nat.min_eq_left (Nat.mul_le_mul_right sz h1)]
    · rw [Nat.min_eq_right h1, Nat.min_eq_right (Nat.mul_le_mul_right sz h1)]
  refine ⟨by rw [List.length_take, h.1, hl], fun e he => h.2.1 e (List.mem_of_mem_take he), fun i j e d he hd => ?_⟩
  rw [List.getElem?_take] at he
  split at he
  · rename_i hi
    obtain ⟨u, hu, hr⟩ := h.2.2 i j e d he hd
    have hj := getElem?_lt hd
    rw [h.2.1 e (List.mem_of_getElem? he)] at hj
    exact ⟨u, by rw [List.getElem?_take, if_pos (mul_lt hi hj)]; exact hu, hr⟩
  · cases he

theorem RowVs.one {X : Nat → Prop} {sz : Nat} {es : Row} {vs : List Value} (h : RowVs w X sz es vs) : ∀ v ∈ vs, v.oneCell' = true := by
  intro v hv
  obtain ⟨k, hk, rfl⟩ := List.mem_iff_getElem.1 hv
  have hkl : k < es.length * sz := by rw [← h.1]; exact hk
  have hpos : 0 < sz := Nat.pos_of_ne_zero fun h => by subst h; simp at hkl
  have hi : k / sz < es.length := Nat.div_lt_of_lt_mul (by rw [Nat.mul_comm]; exact hkl)
  have hj : k % sz < sz := Nat.mod_lt _ hpos
  have he := List.getElem?_eq_getElem hi
  have hel := h.2.1 _ (List.mem_of_getElem? he)
  have hd := List.getElem?_eq_getElem (l := es[k / sz]) (i := k % sz) (by rw [hel]; exact hj)
  obtain ⟨u, hu, hr⟩ := h.2.2 _ _ _ _ he hd
  rw [show k / sz * sz + k % sz = k by rw [Nat.mul_comm]; exact Nat.div_add_mod k sz, List.getElem?_eq_getElem hk] at hu
  cases hu
  exact hr.oneCell

/-- What 'append' does where it must grow. -/
theorem run_append_grows {t u ty e : TypeId} {i : TypeInfo} {z : Value} (ht : P.underlying t = some (.slice e)) (hu : (∃ e', P.underlying u = some (.slice e')) ∨ P.underlying u = some .string) (hi : P.info? e = some i) (hz : i.zero = some z)
    {base : Option Addr} {sLen sCap n : Nat} {vx : Value} {olds news : List Value} (hlx : (Builtin.lenOf vx).run P w = .ok n w)
    (hold : (Builtin.firstCells i.size sLen (.slice base sLen sCap)).run P w.drew = .ok olds.toArray w.drew) (hnew : (Builtin.firstCells i.size n vx).run P w.drew = .ok news.toArray w.drew)
    (hg : sCap < sLen + n) (h63 : sLen + n ≤ 4294967296) (hby : i.bytes ≤ 4096) :
    (Builtin.append_ #[t, u] ty #[.slice base sLen sCap, vx]).run P w = .ok (.slice (some ⟨w.heap.size, 0, none⟩) (sLen + n) (grownCap w (sLen + n) sCap e))
      (w.drew.alloc (.cells (olds.toArray ++ news.toArray ++ Builtin.zeroCells z.cells (grownCap w (sLen + n) sCap e - (sLen + n))) e)) := by
  have hn : ¬ (sLen + n ≤ sCap) := by omega
  have hmul : (sLen + n) * i.bytes ≤ 4294967296 * 4096 := Nat.mul_le_mul h63 hby
  have hfit := growslice_fits (need := sLen + n) (old := sCap) (bytes := i.bytes) hg (by omega)
  have h48' : ¬ (281474976710656 < Builtin.nextslicecap (sLen + n) sCap * i.bytes) := by omega
  have h63' : ¬ (9223372036854775807 < ((sLen : Int) + (n : Int))) := by omega
  rcases hu with ⟨e', hu⟩ | hu
  · simp [Builtin.append_, run_underlying ht, run_underlying hu, sizeOf, typeInfo, zeroValue, hi, hz, hlx, hn, h63', h48', Question.forced, hold, hnew, newRow, grownCap]
    exact congrArg (fun c => w.drew.alloc (Obj.cells c e)) (Array.toList_inj.1 (by simp))
  · simp [Builtin.append_, run_underlying ht, run_underlying hu, sizeOf, typeInfo, zeroValue, hi, hz, hlx, hn, h63', h48', Question.forced, hold, hnew, newRow, grownCap]
    exact congrArg (fun c => w.drew.alloc (Obj.cells c e)) (Array.toList_inj.1 (by simp))

/-- What 'append' does where there is room. -/
theorem run_append_fits' {t u ty e : TypeId} {i : TypeInfo} (ht : P.underlying t = some (.slice e)) (hu : (∃ e', P.underlying u = some (.slice e')) ∨ P.underlying u = some .string) (hi : P.info? e = some i)
    {base : Option Addr} {sLen sCap n : Nat} {vx : Value} {news : List Value} (hlx : (Builtin.lenOf vx).run P w = .ok n w)
    (hnew : (Builtin.firstCells i.size n vx).run P w = .ok news.toArray w) (hg : sLen + n ≤ sCap) (w' : World)
    (hst : ∀ a, base = some a → (storeCells (a.add (sLen * i.size)) news 0).run P w = .ok () w') (hnone : base = none → w' = w) :
    (Builtin.append_ #[t, u] ty #[.slice base sLen sCap, vx]).run P w = .ok (.slice base (sLen + n) sCap) w' := by
  rcases hu with ⟨e', hu⟩ | hu
  · cases base with
    | none =>
      have := hnone rfl; subst this
      simp [Builtin.append_, run_underlying ht, run_underlying hu, sizeOf, typeInfo, hi, hlx, hg, hnew]
    | some a => simp [Builtin.append_, run_underlying ht, run_underlying hu, sizeOf, typeInfo, hi, hlx, hg, hnew, hst a rfl]
  · cases base with
    | none =>
      have := hnone rfl; subst this
      simp [Builtin.append_, run_underlying ht, run_underlying hu, sizeOf, typeInfo, hi, hlx, hg, hnew]
    | some a => simp [Builtin.append_, run_underlying ht, run_underlying hu, sizeOf, typeInfo, hi, hlx, hg, hnew, hst a rfl]

/-- An object that is forgotten. -/
theorem Trans.dead (hH : HRel F w ρ s.obj?) {id : Id} {sz : Nat} {es : Row} (ho : s.obj? id = some (.row sz es)) : Trans F s w ρ (s.setObj id .dead) w ρ := by
  have e := obj_setObj s id .dead _ ho
  have hrow : ∀ sz' es', O.dead = .row sz' es' ∨ O.dead = .fro sz' es' → ∃ es0, O.row sz es = .row sz' es0 ∨ O.row sz es = .fro sz' es0 := fun sz' es' h => by rcases h with h | h <;> cases h
  refine ⟨?_, ?_, by cases id <;> rfl, by cases id <;> simp [St.setObj], SameW.refl _⟩
  · rw [e]; exact step_set hH ho (fun h => by cases h) hrow (Nat.le_refl _) (fun _ _ => .inl rfl)
  · rw [e]; exact hH.set ho (fun h => by cases h) (fun h => by cases h) hrow (fun kvs h => by cases h) (Nat.le_refl _) (fun _ _ => .inl rfl) trivial

theorem Trans.drew (h : Trans F s w ρ s' w' ρ') : Trans F s w ρ s' w'.drew ρ' :=
  ⟨h.st.trans (Step.of_heap rfl), HRel.of_heap (w := w') (w' := w'.drew) rfl h.H, h.env, h.out, h.same⟩

/-- A row goes on in its own block under a new name. -/
theorem Trans.move (hH : HRel F w ρ s.obj?) {id : Id} {sz b cap : Nat} {es es2 : Row} {cur cur2 : Array Value} {ty : TypeId} (ho : s.obj? id = some (.row sz es)) (hρ : ρ id = some (b, cap))
    (hb : w.heap[b]? = some (.cells cur ty (0, 0))) (hsz : 0 < sz) (hcap : es2.length ≤ cap) (hmax : cap ≤ maxLen) (hcs : cur2.size = cap * sz)
    (hes : ∀ e ∈ es2, e.length = sz) (hc : ∀ (i j : Nat) e d, es2[i]? = some e → e[j]? = some d → ∃ v, cur2[i * sz + j]? = some v ∧ RepD w (XOf ρ s.obj?) d v) :
    Trans F s w ρ (newObj (s.setObj id .dead) (.row sz es2)) (w.setRow b cur2) (updR ρ (.l s.loc.length) (some (b, cap))) ∧
      RepAV F (w.setRow b cur2) (updR ρ (.l s.loc.length) (some (b, cap))) (newObj (s.setObj id .dead) (.row sz es2)).obj? (.v (.c (.sl (.l s.loc.length) 0 es2.length)))
        (.slice (some ⟨b, 0, none⟩) es2.length cap) := by
  have hll : (s.setObj id .dead).loc.length = s.loc.length := by cases id <;> simp [St.setObj]
  have eob : (newObj (s.setObj id .dead) (.row sz es2)).obj? = upd (upd s.obj? id .dead) (.l s.loc.length) (.row sz es2) := by
    rw [obj_newObj, hll, obj_setObj s id .dead _ ho]
  have hnn := obj_new_none s
  have hne : id ≠ .l s.loc.length := by rintro rfl; rw [hnn] at ho; cases ho
  have ne : ∀ i, (s.obj? i).isSome = true → i ≠ .l s.loc.length := by rintro i h rfl; rw [hnn] at h; cases h
  have st : Step w ρ s.obj? (w.setRow b cur2) (updR ρ (.l s.loc.length) (some (b, cap))) (newObj (s.setObj id .dead) (.row sz es2)).obj? := by
    rw [eob]
    refine ⟨by simp, fun b' hb' hx => ?_, fun b' hb' hx => ?_, fun i h => updR_ne (ne i h) _, fun i h => ?_, fun i sz' es' h he => ?_, rfl⟩
    · exact setRow_other w b b' cur2 (fun e => hx ⟨id, _, cap, ho, rfl, by rw [e]; exact hρ⟩)
    · obtain ⟨i, oo, c, h1, h2, h3⟩ := hx
      by_cases hi : i = .l s.loc.length
      · subst hi; rw [updR_same] at h3; cases h3
        exact ⟨id, _, _, ho, rfl, hρ⟩
      · rw [updR_ne hi] at h3; rw [upd_ne hi] at h1
        by_cases hi2 : i = id
        · subst hi2; rw [upd_same] at h1; cases h1; cases h2
        · rw [upd_ne hi2] at h1; exact ⟨i, oo, c, h1, h2, h3⟩
    · rw [upd_ne (ne i h)]
      by_cases hi2 : i = id
      · subst hi2; rw [upd_same]; rfl
      · rw [upd_ne hi2]; exact h
    · simp only [rowO, upd_ne (ne i h)] at he
      by_cases hi2 : i = id
      · subst hi2; simp only [upd_same] at he; cases he
      · simp only [upd_ne hi2] at he; exact ⟨es', by simp only [rowO]; exact he⟩
  have hlive : ∀ i o c, s.obj? i = some o → held o = true → ρ i = some (b, c) → i = id := fun i o c h1 h2 h3 => (hH.inj id i _ o b cap c ho rfl h1 h2 hρ h3).symm
  have hnew : RepRow (w.setRow b cur2) (updR ρ (.l s.loc.length) (some (b, cap))) (newObj (s.setObj id .dead) (.row sz es2)).obj? (.l s.loc.length) sz es2 :=
    ⟨hes, .inr ⟨b, cap, cur2, ty, updR_same _ _, setRow_heap w b cur cur2 ty (0, 0) hb, hcs, hcap, hmax, hsz, fun i j e d he hd =>
      let ⟨v, hv, hr⟩ := hc i j e d he hd; ⟨v, hv, st.repD hr⟩⟩⟩
  refine ⟨⟨st, ?_, by cases id <;> rfl, by cases id <;> simp [St.setObj, newObj], ⟨rfl, rfl, rfl⟩⟩, ?_⟩
  · refine hH.change st (fun i => i = id ∨ i = .l s.loc.length) (fun i h => ?_) (fun i oo b' c hi h1 h2 h3 => ?_) (fun m kvs h e => ?_) (fun i oo hi ho' => ?_)
      (fun i i' oo oo' b' c c' hch h1 h2 h3 h4 h5 h6 => ?_) (fun i oo b' c hi ho' hhd hr => ?_)
    · rw [eob, upd_ne (fun e => h (.inr e)), upd_ne (fun e => h (.inl e))]
    · refine setRow_other w b b' cur2 (fun e => hi (.inl ?_))
      subst e; exact hlive i oo c h1 h2 h3
    · rcases e with rfl | rfl
      · rw [ho] at h; cases h
      · rw [hnn] at h; cases h
    · rw [eob] at ho'
      by_cases h : i = .l s.loc.length
      · subst h; rw [upd_same] at ho'; cases ho'; exact hnew
      · rw [upd_ne h] at ho'
        rcases hi with rfl | hi
        · rw [upd_same] at ho'; cases ho'; trivial
        · exact (h hi).elim
    · rw [eob] at h1 h3
      have old : ∀ j q c, j ≠ .l s.loc.length → upd (upd s.obj? id .dead) (.l s.loc.length) (.row sz es2) j = some q → held q = true →
          updR ρ (.l s.loc.length) (some (b, cap)) j = some (b', c) → s.obj? j = some q ∧ ρ j = some (b', c) ∧ j ≠ id := by
        intro j q c hj hq hh hr
        rw [upd_ne hj] at hq; rw [updR_ne hj] at hr
        by_cases hji : j = id
        · subst hji; rw [upd_same] at hq; cases hq; cases hh
        · rw [upd_ne hji] at hq; exact ⟨hq, hr, hji⟩
      by_cases e1 : i = .l s.loc.length <;> by_cases e2 : i' = .l s.loc.length
      · rw [e1, e2]
      · obtain ⟨q1, q2, q3⟩ := old i' _ _ e2 h3 h4 h6
        subst e1; rw [updR_same] at h5; cases h5
        exact (q3 (hlive i' _ _ q1 h4 q2)).elim
      · obtain ⟨q1, q2, q3⟩ := old i _ _ e1 h1 (live_held h2) h5
        subst e2; rw [updR_same] at h6; cases h6
        exact (q3 (hlive i _ _ q1 (live_held h2) q2)).elim
      · obtain ⟨q1, q2, q3⟩ := old i _ _ e1 h1 (live_held h2) h5
        obtain ⟨r1, r2, r3⟩ := old i' _ _ e2 h3 h4 h6
        exact hH.inj i i' _ _ b' c c' q1 h2 r1 h4 q2 r2
    · rw [eob] at ho'
      by_cases h : i = .l s.loc.length
      · subst h; rw [updR_same] at hr; cases hr
        exact hH.y id _ _ _ ho rfl hρ
      · rw [upd_ne h] at ho'
        rcases hi with rfl | hi
        · rw [upd_same] at ho'; cases ho'; cases hhd
        · exact (h hi).elim
  · refine ⟨by rw [eob, upd_same]; rfl, ⟨_, _, rfl⟩, fun sz' es' he => ?_⟩
    simp only [SlAt, updR_same]
    exact ⟨fun _ => trivial, fun h => (h rfl).elim⟩
end
end Go.Aiv

namespace Go.Aiv

section
variable {F : List (Nat × Nat)} {w w' w'' : World} {ρ ρ' ρ'' : Rho} {ob : Obs} {P : Program} {s s' s'' : St}

/-- What is appended: its cells, as the model loads them. -/
def Src (P : Program) (w : World) (X : Nat → Prop) (sz : Nat) (news : Row) (vx : Value) : Prop :=
  ∃ vs : List Value, RowVs w X sz news vs ∧ (Builtin.lenOf vx).run P w = .ok news.length w ∧
    ∀ w' n, w'.heap = w.heap → n ≤ news.length → (Builtin.firstCells sz n vx).run P w' = .ok (vs.take (n * sz)).toArray w'

theorem Src.step (st : Step w ρ ob w ρ' s.obj?) {sz : Nat} {news : Row} {vx : Value} (h : Src P w (XOf ρ ob) sz news vx) : Src P w (XOf ρ' s.obj?) sz news vx :=
  let ⟨vs, h1, h2⟩ := h; ⟨vs, h1.step st, h2⟩

theorem newsOf_src {x : AV} {vx : Value} {news : Row} {sz : Nat} (hH : HRel F w ρ s.obj?) (h : newsOf s x = some news) (hr : RepAV F w ρ s.obj? x vx) (hsz : okSz sz news = true) :
    Src P w (XOf ρ s.obj?) sz news vx := by
  unfold newsOf at h
  split at h
  · rename_i b
    cases h
    obtain ⟨sb, rfl, rfl⟩ := repAV_str hr
    by_cases h0 : sb.data.toList = []
    · rw [h0]
      obtain ⟨_, h2, h3⟩ := str_first (P := P) (w := w) (X := XOf ρ s.obj?) sb
      rw [h0] at h2 h3
      exact ⟨[], ⟨by simp, by simp, fun i j e d he => by simp at he⟩, by simpa using h2, fun w' n _ hn => by
        have hn0 : n = 0 := by simpa using hn
        subst hn0
        simpa using h3 w' sz 0 (by simp)⟩
    · have hs1 : sz = 1 := by
        obtain ⟨c, cs, hc⟩ := List.exists_cons_of_ne_nil h0
        have := okSz_spec hsz [.int .u8 c.toNat] (by rw [hc]; simp)
        simpa using this.symm
      subst hs1
      obtain ⟨h1, h2, h3⟩ := str_first (P := P) (w := w) (X := XOf ρ s.obj?) sb
      exact ⟨_, h1, by simpa using h2, fun w' n _ hn => h3 w' 1 n (by simpa using hn)⟩
  · rename_i c hc
    exact lies_first (view_lies hH h hr) hsz
  · cases h

theorem zeroC_some {e : TypeId} {zero : List C} (h : zeroC P e = some zero) : ∃ i z, P.info? e = some i ∧ i.zero = some z ∧ i.size = zero.length ∧ z.cells.size = zero.length := by
  simp only [zeroC, Option.bind_eq_bind, Option.bind_eq_some_iff] at h
  obtain ⟨i, hi, zv, hzv, u, hu, hcs⟩ := h
  split at hcs
  · rename_i hl
    simp only [Option.some.injEq] at hcs
    subst hcs
    exact ⟨i, zv, hi, hzv, hl.symm, (constV_rep (F := []) (w := default) (ρ := ⟨fun _ => none, fun _ => False⟩) (ob := fun _ => none) hu).size⟩
  · cases hcs

theorem size_zeroCells' (z : Array Value) (n : Nat) : (Builtin.zeroCells z n).size = n * z.size := by simp [Builtin.zeroCells]

theorem RowVs.get {X : Nat → Prop} {sz : Nat} {es : Row} {vs : List Value} (h : RowVs w X sz es vs) (rest : Array Value) : ∀ (i j : Nat) e d, es[i]? = some e → e[j]? = some d →
    ∃ v, (vs.toArray ++ rest)[i * sz + j]? = some v ∧ RepD w X d v := by
  intro i j e d he hd
  obtain ⟨u, hu, hr⟩ := h.2.2 i j e d he hd
  refine ⟨u, ?_, hr⟩
  rw [Array.getElem?_append_left (by simpa using getElem?_lt hu)]
  simpa using hu

/-- A grown row: its block is new. -/
theorem grown_trans {e : TypeId} {sz need old : Nat} {es : Row} {vs : List Value} {z : Value} (hH : HRel F w ρ s.obj?) (hv : RowVs w (XOf ρ s.obj?) sz es vs) (hl : es.length = need) (hsz : 0 < sz) (hz : z.cells.size = sz)
    (hneed : need ≤ 4294967296) :
    ∃ ρ', Trans F s w ρ (newObj s (.row sz es)) (w.drew.alloc (.cells (vs.toArray ++ Builtin.zeroCells z.cells (grownCap w need old e - need)) e)) ρ' ∧
      RepAV F (w.drew.alloc (.cells (vs.toArray ++ Builtin.zeroCells z.cells (grownCap w need old e - need)) e)) ρ' (newObj s (.row sz es)).obj? (.v (.c (.sl (.l s.loc.length) 0 es.length)))
        (.slice (some ⟨w.heap.size, 0, none⟩) need (grownCap w need old e)) := by
  subst hl
  have hge := grownCap_ge w es.length old e
  have hmx : es.length ≤ maxLen := by unfold maxLen; omega
  have hle := grownCap_le_maxLen w es.length old e hmx
  have hHd : HRel F w.drew ρ s.obj? := HRel.of_heap (w := w) (w' := w.drew) rfl hH
  have hvd : RowVs w.drew (XOf ρ s.obj?) sz es vs := hv.step (ob := s.obj?) (ob' := s.obj?) (ρ := ρ) (ρ' := ρ) (Step.of_heap (w := w) (w' := w.drew) rfl)
  obtain ⟨h1, h2⟩ := newRow_trans (F := F) (s := s) (w := w.drew) (ρ := ρ) (ty := e) (cap := grownCap w es.length old e) (cur := vs.toArray ++ Builtin.zeroCells z.cells (grownCap w es.length old e - es.length)) hHd hsz hge hle
    (by simp only [Array.size_append, List.size_toArray, size_zeroCells', hz, hv.1, ← Nat.add_mul]; congr 1; omega) hv.2.1 (hvd.get _)
  exact ⟨_, ⟨(Step.of_heap (w := w) (w' := w.drew) rfl).trans h1.st, h1.H, h1.env, h1.out, h1.same⟩, h2⟩

/-- 'append' to what has no room. -/
theorem op_append_nil {t u ty e : TypeId} {zero : List C} {i : TypeInfo} {a : Option Addr} {vx : Value} {news : Row} (ht : P.underlying t = some (.slice e)) (hu : (∃ e', P.underlying u = some (.slice e')) ∨ P.underlying u = some .string)
    (hi : P.info? e = some i) (hz : zeroC P e = some zero) (hH : HRel F w ρ s.obj?) (hs : Src P w (XOf ρ s.obj?) zero.length news vx) (hn : news.length ≤ maxRow) (hby : i.bytes ≤ 4096) (hpos : 0 < zero.length) :
    ∃ w' ρ' v, (Builtin.append_ #[t, u] ty #[.slice a 0 0, vx]).run P w = .ok v w' ∧ Trans F s w ρ (newObj s (.row zero.length news)) w' ρ' ∧
      RepAV F w' ρ' (newObj s (.row zero.length news)).obj? (.v (.c (.sl (.l s.loc.length) 0 news.length))) v := by
  obtain ⟨i', z, hi', hzz, hsize, hzc⟩ := zeroC_some hz
  rw [hi] at hi'; cases hi'
  obtain ⟨vs, hv, hl, hf⟩ := hs
  have hmr : maxRow = 4294967296 := rfl
  by_cases h0 : news = []
  · subst h0
    have hnv : vs = [] := List.eq_nil_of_length_eq_zero (by rw [hv.1]; simp)
    subst hnv
    have hrun := run_append_fits' (P := P) (w := w) (t := t) (u := u) (ty := ty) ht hu hi (base := a) (sLen := 0) (sCap := 0) (n := 0) (vx := vx) (news := []) (by simpa using hl)
      (by rw [hsize]; simpa using hf w 0 rfl (by simp)) (Nat.le_refl _) w (fun ad _ => by simp [storeCells]) (fun _ => rfl)
    refine ⟨w, updR ρ (.l s.loc.length) none, _, hrun, ⟨?_, ?_, rfl, rfl, SameW.refl _⟩, ?_⟩
    · rw [obj_newObj]; exact step_nil (obj_new_none s) _
    · rw [obj_newObj]; exact hH.newNil (obj_new_none s) _
    · refine ⟨by rw [new_obj?]; rfl, ⟨_, _, rfl⟩, fun sz' es' he => ?_⟩
      simp only [SlAt, updR_same]
      exact ⟨a, by simp⟩
  · have hlen : 0 < news.length := List.length_pos_iff.2 h0
    have hrun := run_append_grows (P := P) (w := w) (t := t) (u := u) (ty := ty) ht hu hi hzz (base := a) (sLen := 0) (sCap := 0) (n := news.length) (vx := vx) (olds := []) (news := vs) hl
      (by cases a <;> simp [Builtin.firstCells, loadCells, loadCellsFrom]) (by
        rw [hsize, hf w.drew news.length rfl (Nat.le_refl _)]
        congr 2
        rw [← hv.1]; exact List.take_length) (by omega) (by omega) hby
    obtain ⟨ρ', h1, h2⟩ := grown_trans (F := F) (s := s) (e := e) (old := 0) (need := news.length) hH hv rfl hpos hzc (by omega)
    simp only [Nat.zero_add] at hrun
    have e1 : ([] : List Value).toArray ++ vs.toArray = vs.toArray := by simp
    rw [e1] at hrun
    exact ⟨_, ρ', _, hrun, h1, h2⟩

/-- 'append' to a row of the call's own. -/
theorem op_append_own {t u ty e : TypeId} {zero : List C} {i : TypeInfo} {id : Id} {len : Nat} {es0 : Row} {va vx : Value} {news : Row} (ht : P.underlying t = some (.slice e)) (hu : (∃ e', P.underlying u = some (.slice e')) ∨ P.underlying u = some .string)
    (hi : P.info? e = some i) (hz : zeroC P e = some zero) (hH : HRel F w ρ s.obj?) (ho : s.obj? id = some (.row zero.length es0)) (hle : len ≤ es0.length)
    (ha : RepC F w ρ s.obj? (.sl id 0 len) va) (hs : Src P w (XOf ρ s.obj?) zero.length news vx) (hn : len + news.length ≤ maxRow) (hby : i.bytes ≤ 4096) (hpos : 0 < zero.length) :
    ∃ w' ρ' v, (Builtin.append_ #[t, u] ty #[va, vx]).run P w = .ok v w' ∧ Trans F s w ρ (newObj (s.setObj id .dead) (.row zero.length (es0.take len ++ news))) w' ρ' ∧
      RepAV F w' ρ' (newObj (s.setObj id .dead) (.row zero.length (es0.take len ++ news))).obj? (.v (.c (.sl (.l s.loc.length) 0 (len + news.length)))) v := by
  obtain ⟨i', z, hi', hzz, hsize, hzc⟩ := zeroC_some hz
  rw [hi] at hi'; cases hi'
  have hmr : maxRow = 4294967296 := rfl
  have hll : (s.setObj id .dead).loc.length = s.loc.length := by cases id <;> simp [St.setObj]
  have td := Trans.dead hH ho
  have hrow : rowO s.obj? id = some (zero.length, es0) := by simp only [rowO, ho]
  obtain ⟨_, ⟨ad, c, rfl⟩, hsl⟩ := ha
  have hsl := hsl _ _ hrow
  have hrep := rowO_rep hH hrow
  simp only [SlAt] at hsl
  split at hsl
  · obtain ⟨a', h5⟩ := hsl
    cases h5
    have hs' := hs.step td.st
    obtain ⟨w', ρ', v, h1, h2, h3⟩ := op_append_nil (P := P) (t := t) (u := u) (ty := ty) (a := ad) ht hu hi hz td.H hs' (by omega) hby hpos
    rw [hll] at h3
    refine ⟨w', ρ', v, h1, ?_, ?_⟩
    · simpa using td.trans h2
    · simpa using h3
  · rename_i b cap hρ
    have h6 := hsl.1 trivial
    cases h6
    rcases hrep.2 with ⟨hnn, _⟩ | ⟨b', cap', cur, tyc, hρ', hb, hcs, hlc, hmax, _, hcells⟩
    · rw [hρ] at hnn; cases hnn
    · rw [hρ] at hρ'; cases hρ'
      obtain ⟨vs, hv, hl, hf⟩ := hs
      have hold : RowVs w (XOf ρ s.obj?) zero.length (es0.take len) (cur.toList.take (len * zero.length)) := by
        have hlel : len * zero.length ≤ c * zero.length := Nat.mul_le_mul_right _ (by omega)
        have hcl : cur.toList.length = c * zero.length := by rw [← hcs]; exact Array.length_toList
        refine ⟨by rw [List.length_take, List.length_take, Nat.min_eq_left hle, Nat.min_eq_left (by rw [hcl]; exact hlel)], fun e he => hrep.1 e (List.mem_of_mem_take he), fun i j e d he hd => ?_⟩
        rw [List.getElem?_take] at he
        split at he
        · rename_i hi'
          obtain ⟨u', hu', hr⟩ := hcells i j e d he hd
          have hj := getElem?_lt hd
          rw [hrep.1 e (List.mem_of_getElem? he)] at hj
          exact ⟨u', by rw [List.getElem?_take, if_pos (mul_lt hi' hj)]; simpa using hu', hr⟩
        · cases he
      have hnewl : vs.length = news.length * zero.length := hv.1
      have hf0 : ∀ w', w'.heap = w.heap → (Builtin.firstCells zero.length news.length vx).run P w' = .ok vs.toArray w' := fun w' hh => by
        rw [hf w' news.length hh (Nat.le_refl _), ← hnewl, List.take_length]
      by_cases hroom : len + news.length ≤ c
      · have hfit : len * zero.length + vs.length ≤ cur.size := by rw [hnewl, hcs, ← Nat.add_mul]; exact Nat.mul_le_mul_right _ hroom
        have hst := run_storeCells_at P b (len * zero.length) tyc vs 0 cur w hb (by simpa using hfit) hv.one
        simp only [Nat.add_zero] at hst
        have hrun := run_append_fits' (P := P) (w := w) (t := t) (u := u) (ty := ty) ht hu hi (base := some ⟨b, 0, none⟩) (sLen := len) (sCap := c) (n := news.length) (vx := vx) (news := vs) hl
          (by rw [hsize]; exact hf0 w rfl) hroom _ (fun a' h => by cases h; rw [addr_add, hsize, Nat.zero_add]; exact hst) (fun h => by cases h)
        have hl2 : (es0.take len ++ news).length = len + news.length := by simp [Nat.min_eq_left hle]
        obtain ⟨h1, h2⟩ := Trans.move (F := F) (s := s) (es2 := es0.take len ++ news) (cur2 := (cur.toList.take (len * zero.length) ++ vs ++ cur.toList.drop (len * zero.length + vs.length)).toArray) hH ho hρ hb hpos
          (by rw [hl2]; exact hroom) hmax (by simp [← hcs]; omega) (fun e he => (List.mem_append.1 he).elim (hold.2.1 e) (hv.2.1 e))
          (fun i j e d he hd => by
            have := (hold.append hv).get (cur.toList.drop (len * zero.length + vs.length)).toArray i j e d he hd
            simpa using this)
        rw [hl2] at h2
        exact ⟨_, _, _, hrun, h1, h2⟩
      · have hfo : (Builtin.firstCells zero.length len (.slice (some ⟨b, 0, none⟩) len c)).run P w.drew = .ok (cur.toList.take (len * zero.length)).toArray w.drew := by
          have hlen : (cur.toList.take (len * zero.length)).length = len * zero.length := by rw [hold.1]; simp [Nat.min_eq_left hle]
          refine run_firstCells_some (P := P) w.drew zero.length len ⟨b, 0, none⟩ len c _ hlen (fun j v hj => ?_)
          rw [addr_add, Nat.zero_add]
          rw [List.getElem?_take] at hj
          split at hj
          · exact cell_at (w := w.drew) hb (by simpa using hj)
          · cases hj
        have hrun := run_append_grows (P := P) (w := w) (t := t) (u := u) (ty := ty) ht hu hi hzz (base := some ⟨b, 0, none⟩) (sLen := len) (sCap := c) (n := news.length) (vx := vx)
          (olds := cur.toList.take (len * zero.length)) (news := vs) hl (by rw [hsize]; exact hfo) (by rw [hsize]; exact hf0 w.drew rfl) (by omega) (by omega) hby
        have hl2 : (es0.take len ++ news).length = len + news.length := by simp [Nat.min_eq_left hle]
        obtain ⟨ρ', h1, h2⟩ := grown_trans (F := F) (s := s.setObj id .dead) (e := e) (old := c) (need := len + news.length) td.H ((hold.append hv).step td.st) hl2 hpos hzc (by omega)
        rw [hll, hl2] at h2
        have e1 : (cur.toList.take (len * zero.length)).toArray ++ vs.toArray = (cur.toList.take (len * zero.length) ++ vs).toArray := by simp
        rw [e1] at hrun
        exact ⟨_, ρ', _, hrun, td.trans h1, h2⟩

/-- A row is written in its place. -/
theorem Trans.write (hH : HRel F w ρ s.obj?) {id : Id} {sz b cap : Nat} {es es2 : Row} {cur cur2 : Array Value} {ty : TypeId} (ho : s.obj? id = some (.row sz es)) (hρ : ρ id = some (b, cap))
    (hb : w.heap[b]? = some (.cells cur ty (0, 0))) (hsz : 0 < sz) (hcap : es2.length ≤ cap) (hmax : cap ≤ maxLen) (hcs : cur2.size = cap * sz)
    (hes : ∀ e ∈ es2, e.length = sz) (hc : ∀ (i j : Nat) e d, es2[i]? = some e → e[j]? = some d → ∃ v, cur2[i * sz + j]? = some v ∧ RepD w (XOf ρ s.obj?) d v) :
    Trans F s w ρ (s.setObj id (.row sz es2)) (w.setRow b cur2) ρ := by
  have e := obj_setObj s id (.row sz es2) _ ho
  have hrow : ∀ sz' es', O.row sz es2 = .row sz' es' ∨ O.row sz es2 = .fro sz' es' → ∃ es0, O.row sz es = .row sz' es0 ∨ O.row sz es = .fro sz' es0 := fun sz' es' h => by
    rcases h with h | h <;> cases h; exact ⟨es, .inl rfl⟩
  have hk : ∀ b', b' < w.heap.size → (w.setRow b cur2).heap[b']? = w.heap[b']? ∨ (live (O.row sz es) = true ∧ ∃ c, ρ id = some (b', c)) := fun b' _ => by
    by_cases h : b' = b
    · subst h; exact .inr ⟨rfl, cap, hρ⟩
    · exact .inl (setRow_other w b b' cur2 h)
  have st := step_set (w' := w.setRow b cur2) hH (o' := .row sz es2) ho (fun _ => rfl) hrow (by simp) hk
  rw [← e] at st
  refine ⟨st, ?_, by cases id <;> rfl, by cases id <;> simp [St.setObj], ⟨rfl, rfl, rfl⟩⟩
  rw [e]
  refine hH.set ho (fun _ => rfl) (fun _ => rfl) hrow (fun kvs h => by cases h) (by simp) hk ?_
  rw [← e]
  exact ⟨hes, .inr ⟨b, cap, cur2, ty, hρ, setRow_heap w b cur cur2 ty (0, 0) hb, hcs, hcap, hmax, hsz, fun i j e d he hd =>
    let ⟨v, hv, hr⟩ := hc i j e d he hd; ⟨v, hv, st.repD hr⟩⟩⟩
end
end Go.Aiv

namespace Go.Aiv

section
variable {F : List (Nat × Nat)} {w w' w'' : World} {ρ ρ' ρ'' : Rho} {ob : Obs} {P : Program} {s s' s'' : St}

/-- A box is written. -/
theorem Trans.writeBox (hH : HRel F w ρ s.obj?) {id : Id} {b c : Nat} {cs cs2 : List C} {cur cur2 : Array Value} {ty : TypeId} (ho : s.obj? id = some (.box cs)) (hρ : ρ id = some (b, c))
    (hb : w.heap[b]? = some (.cells cur ty (0, 0))) (hc : All2 (RepC F w ρ s.obj?) cs2 cur2.toList) :
    Trans F s w ρ (s.setObj id (.box cs2)) (w.setRow b cur2) ρ := by
  have e := obj_setObj s id (.box cs2) _ ho
  have hrow : ∀ sz' es', O.box cs2 = .row sz' es' ∨ O.box cs2 = .fro sz' es' → ∃ es0, O.box cs = .row sz' es0 ∨ O.box cs = .fro sz' es0 := fun sz' es' h => by
    rcases h with h | h <;> cases h
  have hk : ∀ b', b' < w.heap.size → (w.setRow b cur2).heap[b']? = w.heap[b']? ∨ (live (O.box cs) = true ∧ ∃ c, ρ id = some (b', c)) := fun b' _ => by
    by_cases h : b' = b
    · subst h; exact .inr ⟨rfl, c, hρ⟩
    · exact .inl (setRow_other w b b' cur2 h)
  have st := step_set (w' := w.setRow b cur2) hH (o' := .box cs2) ho (fun _ => rfl) hrow (by simp) hk
  rw [← e] at st
  refine ⟨st, ?_, by cases id <;> rfl, by cases id <;> simp [St.setObj], ⟨rfl, rfl, rfl⟩⟩
  rw [e]
  refine hH.set ho (fun _ => rfl) (fun _ => rfl) hrow (fun kvs h => by cases h) (by simp) hk ?_
  rw [← e]
  exact ⟨b, c, cur2, ty, hρ, setRow_heap w b cur cur2 ty (0, 0) hb, hc.imp fun x y h => st.repC h⟩

theorem run_storeAt {t : TypeId} {n b o : Nat} {cur : Array Value} {ty : TypeId} {v : Value} (hs : sizeT P t = some n) (hv : v.cells.size = n) (h1 : ∀ u ∈ v.cells.toList, u.oneCell' = true)
    (hb : w.heap[b]? = some (.cells cur ty (0, 0))) (hle : o + n ≤ cur.size) :
    (Instr.storeAt t (.pointer (some ⟨b, o, none⟩)) v).run P w = .ok () (w.setRow b (setAt o v.cells.toList cur.toList).toArray) := by
  have hst := run_storeCells_at P b o ty v.cells.toList 0 cur w hb (by simp; omega) h1
  simp only [Nat.add_zero] at hst
  simp only [Instr.storeAt, Instr.sureAddr, Sem.run_bind, Sem.run_pure, Result.andThen_ok, storeVar, sizeT_run hs, hv, ne_eq, not_true_eq_false, if_false, hst, setAt]

theorem All2.one {cs : List C} {vs : List Value} (h : All2 (RepC F w ρ ob) cs vs) : ∀ u ∈ vs, u.oneCell' = true := by
  intro u hu
  obtain ⟨i, hi, rfl⟩ := List.mem_iff_getElem.1 hu
  have hc : cs[i]? = some (cs[i]'(by rw [h.1]; exact hi)) := List.getElem?_eq_getElem _
  exact (h.2 i _ _ hc (List.getElem?_eq_getElem hi)).oneCell

/-- 'store' into a box. -/
theorem op_store_box {t : TypeId} {n off : Nat} {id : Id} {x : V} {va vx : Value} {cs : List C} (hs : sizeT P t = some n) (hH : HRel F w ρ s.obj?)
    (ha : RepAV F w ρ s.obj? (.v (.c (.ptr id off))) va) (hx : RepV F w ρ s.obj? x vx) (ho : s.obj? id = some (.box cs)) (hl : x.cells.length = n) (hle : off + n ≤ cs.length) :
    ∃ w', (Instr.storeAt t va vx).run P w = .ok () w' ∧ Trans F s w ρ (s.setObj id (.box (setAt off x.cells cs))) w' ρ := by
  obtain ⟨_, b, c, hρ, rfl⟩ := ha
  obtain ⟨b', c', cur, ty, hρ', hb, hcs⟩ := hH.objs id _ ho
  rw [hρ] at hρ'; cases hρ'
  have hsz := hx.size
  have hcl : cs.length = cur.size := by have := hcs.1; simpa using this
  refine ⟨_, run_storeAt (P := P) hs (by omega) hx.cells.one hb (by omega), ?_⟩
  exact Trans.writeBox hH ho hρ hb (by simpa using hcs.setAt hx.cells)

/-- 'store' into a row. -/
theorem op_store_row {t : TypeId} {n off i : Nat} {id : Id} {x : V} {va vx : Value} {sz : Nat} {es : Row} {e ds : List D} (hs : sizeT P t = some n) (hH : HRel F w ρ s.obj?)
    (ha : RepAV F w ρ s.obj? (.rptr id i off) va) (hx : RepV F w ρ s.obj? x vx) (ho : s.obj? id = some (.row sz es)) (hd : s.toDs x = some ds) (he : es[i]? = some e) (hl : ds.length = n) (hle : off + n ≤ e.length) :
    ∃ w', (Instr.storeAt t va vx).run P w = .ok () w' ∧ Trans F s w ρ (s.setObj id (.row sz (es.set i (setAt off ds e)))) w' ρ := by
  have hrow : rowO s.obj? id = some (sz, es) := by simp only [rowO, ho]
  obtain ⟨_, ha⟩ := ha
  obtain ⟨b, c, hρ, rfl⟩ := ha sz es hrow
  obtain ⟨hes, hr⟩ := rowO_rep hH hrow
  rcases hr with ⟨hn, _⟩ | ⟨b', cap, cur, ty, hρ', hb, hcs, hcap, hmax, hpos, hcells⟩
  · rw [hρ] at hn; cases hn
  · rw [hρ] at hρ'; cases hρ'
    have hsz := hx.size
    have hdl := (mapO_some hd).1
    have hel := hes e (List.mem_of_getElem? he)
    have hi := getElem?_lt he
    have hin : i * sz + sz ≤ cur.size := by
      have : (i + 1) * sz ≤ c * sz := Nat.mul_le_mul_right _ (by omega)
      rw [Nat.add_mul] at this; omega
    have hdr := toDs_rep hH hd hx.cells
    refine ⟨_, run_storeAt (P := P) hs (by omega) hx.cells.one hb (by omega), ?_⟩
    have hlen2 : (setAt (i * sz + off) vx.cells.toList cur.toList).length = cur.size := by
      simp only [setAt, List.length_append, List.length_take, List.length_drop, Array.length_toList]; omega
    refine Trans.write hH ho hρ hb hpos (by simpa using hcap) hmax (by simp only [List.size_toArray, hlen2, hcs]) (fun e' he' => ?_) (fun i' j e' d he' hd' => ?_)
    · rcases List.mem_or_eq_of_mem_set he' with h | h
      · exact hes e' h
      · rw [h]; simp only [setAt, List.length_append, List.length_take, List.length_drop]; omega
    · have hnl : vx.cells.toList.length = n := by simp; omega
      have get : ∀ k, (k < i * sz + off ∨ i * sz + off + n ≤ k) → (setAt (i * sz + off) vx.cells.toList cur.toList)[k]? = cur[k]? := by
        intro k hk
        simp only [setAt, hnl]
        rcases hk with hk | hk
        · rw [List.getElem?_append_left (by simp; omega), List.getElem?_append_left (by simp; omega), List.getElem?_take, if_pos hk]; simp
        · rw [List.getElem?_append_right (by simp; omega), List.getElem?_drop]
          simp only [List.length_append, List.length_take, hnl, Array.length_toList]
          rw [Array.getElem?_toList]; congr 1; omega
      rw [List.getElem?_set] at he'
      split at he'
      · rename_i hii
        subst hii
        cases he'
        simp only [setAt] at hd'
        by_cases h1 : j < off
        · rw [List.getElem?_append_left (by simp; omega), List.getElem?_append_left (by simp; omega), List.getElem?_take, if_pos h1] at hd'
          obtain ⟨v, hv, hr⟩ := hcells i j e d he hd'
          exact ⟨v, by simp only [List.getElem?_toArray]; rw [get _ (.inl (by omega))]; exact hv, hr⟩
        · by_cases h2 : j < off + n
          · rw [List.getElem?_append_left (by simp; omega), List.getElem?_append_right (by simp; omega)] at hd'
            simp only [List.length_take] at hd'
            rw [show j - min off e.length = j - off by omega] at hd'
            obtain ⟨u, hu, hr⟩ := hdr.get hd'
            refine ⟨u, ?_, hr⟩
            simp only [List.getElem?_toArray, setAt]
            rw [List.getElem?_append_left (by simp; omega), List.getElem?_append_right (by simp; omega)]
            simp only [List.length_take, Array.length_toList]
            rw [show i * sz + j - min (i * sz + off) cur.size = j - off by omega]
            exact hu
          · rw [List.getElem?_append_right (by simp; omega), List.getElem?_drop] at hd'
            simp only [List.length_append, List.length_take] at hd'
            rw [show off + ds.length + (j - (min off e.length + ds.length)) = j by omega] at hd'
            obtain ⟨v, hv, hr⟩ := hcells i j e d he hd'
            exact ⟨v, by simp only [List.getElem?_toArray]; rw [get _ (.inr (by omega))]; exact hv, hr⟩
      · rename_i hii
        obtain ⟨v, hv, hr⟩ := hcells i' j e' d he' hd'
        have hj : j < sz := by have := hes e' (List.mem_of_getElem? he'); have := getElem?_lt hd'; omega
        refine ⟨v, ?_, hr⟩
        simp only [List.getElem?_toArray]
        rw [get _ ?_]
        · exact hv
        · rcases Nat.lt_or_gt_of_ne hii with hlt | hgt
          · right
            have : (i + 1) * sz ≤ i' * sz := Nat.mul_le_mul_right sz hlt
            rw [Nat.add_mul] at this; omega
          · left
            have := mul_lt hgt hj
            have h3 : (i' + 1) * sz ≤ i * sz := Nat.mul_le_mul_right sz hgt
            rw [Nat.add_mul] at h3; omega

/-- 'copy' -/
theorem op_copy {t u ty e : TypeId} {sz off len : Nat} {id : Id} {es src : Row} {va vx : Value} (ht : P.underlying t = some (.slice e)) (hs : sizeT P e = some sz) (hH : HRel F w ρ s.obj?)
    (ho : s.obj? id = some (.row sz es)) (ha : RepC F w ρ s.obj? (.sl id off len) va) (hle : off + len ≤ es.length) (hx : Src P w (XOf ρ s.obj?) sz src vx) :
    ∃ w', (Builtin.copy_ #[t, u] ty #[va, vx]).run P w = .ok (.int .i64 (Nat.min src.length len)) w' ∧
      Trans F s w ρ (s.setObj id (.row sz (setAt off (src.take (Nat.min src.length len)) es))) w' ρ := by
  have hrow : rowO s.obj? id = some (sz, es) := by simp only [rowO, ho]
  obtain ⟨_, ⟨ad, c, rfl⟩, hsl⟩ := ha
  have hsl := hsl sz es hrow
  obtain ⟨hes, hr⟩ := rowO_rep hH hrow
  obtain ⟨vs, hv, hl, hf⟩ := hx
  generalize hm : Nat.min src.length len = n
  have hn1 : n ≤ src.length := by rw [← hm]; exact Nat.min_le_left _ _
  have hn2 : n ≤ len := by rw [← hm]; exact Nat.min_le_right _ _
  have hfc := hf w n rfl hn1
  have hvn := hv.take (n := n)
  have htn : (src.take n).length = n := by simp [Nat.min_eq_left hn1]
  have hvl : (vs.take (n * sz)).length = n * sz := by rw [hvn.1, htn]
  simp only [SlAt] at hsl
  have same : n = 0 → setAt off (src.take n) es = es := by rintro rfl; simp [setAt]
  have selfT : Trans F s w ρ (s.setObj id (.row sz es)) w ρ := by
    have e1 := obj_setObj s id (.row sz es) _ ho
    have e2 : (s.setObj id (.row sz es)).obj? = s.obj? := by
      rw [e1]; funext x; simp only [upd]; split
      · rename_i h; rw [h, ho]
      · rfl
    exact ⟨by rw [e2]; exact Step.refl _ _ _, by rw [e2]; exact hH, by cases id <;> rfl, by cases id <;> simp [St.setObj], SameW.refl _⟩
  have hbase : ∀ (wr : World) (base : Option Addr), base = ad → (∀ a, base = some a → (storeCells a (vs.take (n * sz)) 0).run P w = .ok () wr) → (base = none → wr = w) →
      (Builtin.copy_ #[t, u] ty #[.slice ad len c, vx]).run P w = .ok (.int .i64 n) wr := by
    rintro wr base rfl h1 h2
    cases base with
    | none =>
      have := h2 rfl; subst this
      simp [Builtin.copy_, run_underlying ht, hl, sizeT_run hs, hfc, goInt, hm]
    | some a =>
      have := h1 a rfl
      simp [Builtin.copy_, run_underlying ht, hl, sizeT_run hs, hfc, goInt, hm, this]
  by_cases h0 : n = 0
  · refine ⟨w, hbase w ad rfl (fun a _ => ?_) (fun _ => rfl), ?_⟩
    · subst h0; simp [storeCells]
    · rw [same h0]; exact selfT
  · split at hsl
    · obtain ⟨a', h5⟩ := hsl
      simp only [Value.slice.injEq] at h5
      omega
    · rename_i b cap hρ
      rcases hr with ⟨hn, _⟩ | ⟨b', cap', cur, tyc, hρ', hb, hcs, hcap, hmax, hpos, hcells⟩
      · rw [hρ] at hn; cases hn
      · rw [hρ] at hρ'; cases hρ'
        have had : ad = some ⟨b, off * sz, none⟩ := by
          by_cases hz : off = 0
          · have := hsl.1 hz
            simp only [Value.slice.injEq] at this
            rw [this.1, hz, Nat.zero_mul]
          · have := hsl.2 hz (by omega)
            simp only [Value.slice.injEq] at this
            exact this.1
        have hfit : off * sz + n * sz ≤ cur.size := by
          have : (off + n) * sz ≤ cap * sz := Nat.mul_le_mul_right _ (by omega)
          rw [Nat.add_mul] at this; omega
        have hst := run_storeCells_at P b (off * sz) tyc (vs.take (n * sz)) 0 cur w hb (by simp only [Nat.add_zero, hvl]; exact hfit) hvn.one
        simp only [Nat.add_zero] at hst
        refine ⟨_, hbase _ ad rfl (fun a h => by rw [had] at h; cases h; exact hst) (fun h => by rw [had] at h; cases h), ?_⟩
        have hlen2 : (setAt off (src.take n) es).length = es.length := by simp only [setAt, List.length_append, List.length_take, List.length_drop]; omega
        refine Trans.write hH ho hρ hb hpos (by rw [hlen2]; exact hcap) hmax (by
          simp only [List.size_toArray, List.length_append, List.length_take, List.length_drop, hvl, Array.length_toList, ← hcs]; simp at hvl; omega)
          (fun e' he' => ?_) (fun i j e' d he' hd' => ?_)
        · simp only [setAt] at he'
          rcases List.mem_append.1 he' with h | h
          · rcases List.mem_append.1 h with h | h
            · exact hes e' (List.mem_of_mem_take h)
            · exact hvn.2.1 e' h
          · exact hes e' (List.mem_of_mem_drop h)
        · have get : ∀ k, (k < off * sz ∨ off * sz + n * sz ≤ k) → (cur.toList.take (off * sz) ++ vs.take (n * sz) ++ cur.toList.drop (off * sz + (vs.take (n * sz)).length))[k]? = cur[k]? := by
            intro k hk
            rw [hvl]
            rcases hk with hk | hk
            · rw [List.getElem?_append_left (by rw [List.length_append, List.length_take, hvl, Array.length_toList]; omega), List.getElem?_append_left (by rw [List.length_take, Array.length_toList]; omega), List.getElem?_take, if_pos hk]; simp
            · rw [List.getElem?_append_right (by rw [List.length_append, List.length_take, hvl, Array.length_toList]; omega), List.getElem?_drop]
              rw [List.length_append, List.length_take, hvl, Array.length_toList, Array.getElem?_toList]
              congr 1; omega
          have hj : j < sz := by
            have h1 := getElem?_lt hd'
            have h2 : e'.length = sz := by
              have he2 := List.mem_of_getElem? he'
              simp only [setAt] at he2
              rcases List.mem_append.1 he2 with h | h
              · rcases List.mem_append.1 h with h | h
                · exact hes e' (List.mem_of_mem_take h)
                · exact hvn.2.1 e' h
              · exact hes e' (List.mem_of_mem_drop h)
            omega
          simp only [setAt, htn] at he'
          by_cases h1 : i < off
          · rw [List.getElem?_append_left (by simp; omega), List.getElem?_append_left (by simp; omega), List.getElem?_take, if_pos h1] at he'
            obtain ⟨v, hv', hr⟩ := hcells i j e' d he' hd'
            refine ⟨v, ?_, hr⟩
            rw [List.getElem?_toArray, get _ (.inl (mul_lt h1 hj))]; exact hv'
          · by_cases h2 : i < off + n
            · rw [List.getElem?_append_left (by simp; omega), List.getElem?_append_right (by simp; omega)] at he'
              simp only [List.length_take] at he'
              rw [show i - min off es.length = i - off by omega] at he'
              obtain ⟨v, hv', hr⟩ := hvn.2.2 (i - off) j e' d he' hd'
              refine ⟨v, ?_, hr⟩
              have hlt : (i - off) * sz + j < n * sz := mul_lt (by omega) hj
              have heq : i * sz = off * sz + (i - off) * sz := by rw [← Nat.add_mul]; congr 1; omega
              rw [List.getElem?_toArray, List.getElem?_append_left (by rw [List.length_append, List.length_take, hvl, Array.length_toList]; omega), List.getElem?_append_right (by rw [List.length_take, Array.length_toList]; omega)]
              rw [List.length_take, Array.length_toList, show i * sz + j - min (off * sz) cur.size = (i - off) * sz + j by omega]
              exact hv'
            · rw [List.getElem?_append_right (by simp; omega), List.getElem?_drop] at he'
              simp only [List.length_append, List.length_take] at he'
              rw [show off + n + (i - (min off es.length + min n src.length)) = i by omega] at he'
              obtain ⟨v, hv', hr⟩ := hcells i j e' d he' hd'
              refine ⟨v, ?_, hr⟩
              have : (off + n) * sz ≤ i * sz := Nat.mul_le_mul_right sz (by omega)
              rw [Nat.add_mul] at this
              rw [List.getElem?_toArray, get _ (.inr (by omega))]; exact hv'
end
end Go.Aiv

namespace Go.Aiv

section
variable {F : List (Nat × Nat)} {w w' w'' : World} {ρ ρ' ρ'' : Rho} {ob : Obs} {P : Program} {s s' s'' : St}

def setB (w : World) (b : Nat) (o : Obj) : World := { w with heap := w.heap.setIfInBounds b o }

theorem setB_same (w : World) (b : Nat) (o x : Obj) (h : w.heap[b]? = some x) : (setB w b o).heap[b]? = some o := by
  have hb := (Array.getElem?_eq_some_iff.1 h).1
  simp [setB, hb]
theorem setB_other (w : World) (b k : Nat) (o : Obj) (h : k ≠ b) : (setB w b o).heap[k]? = w.heap[k]? := by
  simp [setB, Array.getElem?_setIfInBounds_ne (Ne.symm h)]
theorem setB_size (w : World) (b : Nat) (o : Obj) : (setB w b o).heap.size = w.heap.size := by simp [setB]

theorem sameNow_of_eqKey {X : Nat → Prop} {kk : Kd} {kd : TypeDesc} (hk : KdIs kk kd) {k k' : DV} {vk vk' : Value} (h1 : RepDV w X k vk) (h2 : RepDV w X k' vk') {b : Bool} (hb : eqKey kk k k' = some b) :
    Instr.sameNow kd vk vk' = some b ∧ (b = true → Instr.sameBits 10000 vk' vk = true) := by
  unfold eqKey at hb
  split at hb
  · rename_i k0 k1 a k2 b'
    split at hb
    · rename_i hkk
      cases hb
      have e1 : RepD w X (.int k1 a) vk := h1
      have e2 : RepD w X (.int k2 b') vk' := h2
      cases e1; cases e2
      simp only [KdIs] at hk; subst hk; subst hkk
      refine ⟨by simp [Instr.sameNow], fun h => ?_⟩
      have : a = b' := by simpa using h
      subst this
      simp [Instr.sameBits]
    · cases hb
  · rename_i a b'
    cases hb
    have e1 : RepD w X (.str a) vk := h1
    have e2 : RepD w X (.str b') vk' := h2
    cases e1 with
    | str _ s1 h3 =>
      cases e2 with
      | str _ s2 h4 =>
        simp only [KdIs] at hk; subst hk
        refine ⟨by simp only [Instr.sameNow, beq_toListBytes, toList_data, h3, h4], fun h => ?_⟩
        simp only [Instr.sameBits, beq_toListBytes, toList_data, h3, h4]
        have : a = b' := by simpa using h
        simp [this]
  · cases hb

theorem upd_find {X : Nat → Prop} {kk : Kd} {kd : TypeDesc} (hk : KdIs kk kd) {k v : DV} {vk : Value} (hkr : RepDV w X k vk) :
    ∀ (kvs : KVs) (ents : List MapEntry) (i : Nat) (kvs' : KVs), All2 (RepKV w X) kvs ents → updKV kk k v kvs = some kvs' →
      (Instr.findNow kd vk ents i = some none ∧ kvs' = kvs ++ [(k, v)]) ∨
      ∃ j e, Instr.findNow kd vk ents i = some (some (i + j, e.val)) ∧ ents[j]? = some e ∧ Instr.sameBits 10000 e.key vk = true ∧ kvs' = kvs.set j (k, v)
  | [], ents, i, kvs', ha, h => by
    have : ents = [] := List.eq_nil_of_length_eq_zero ha.1.symm
    subst this
    simp only [updKV, Option.some.injEq] at h
    subst h
    exact .inl ⟨rfl, rfl⟩
  | (k', v') :: kvs, ents, i, kvs', ha, h => by
    obtain ⟨e, ents', rfl, ⟨hk', hv'⟩, ha'⟩ := ha.consL
    simp only [updKV] at h
    split at h
    · rename_i hb
      cases h
      have := sameNow_of_eqKey hk hkr hk' hb
      exact .inr ⟨0, e, by simp only [Instr.findNow, this.1, Nat.add_zero], rfl, this.2 rfl, rfl⟩
    · rename_i hb
      have := sameNow_of_eqKey hk hkr hk' hb
      split at h
      · rename_i r hr
        cases h
        rcases upd_find hk hkr kvs ents' (i + 1) r ha' hr with ⟨h1, h2⟩ | ⟨j, e', h1, h2, h3, h4⟩
        · exact .inl ⟨by simp only [Instr.findNow, this.1, h1], by simp [h2]⟩
        · exact .inr ⟨j + 1, e', by simp only [Instr.findNow, this.1, h1]; congr 3; omega, by simpa using h2, h3, by simp [h4]⟩
      · cases h
    · cases h

theorem del_find {X : Nat → Prop} {kk : Kd} {kd : TypeDesc} (hk : KdIs kk kd) {k : DV} {vk : Value} (hkr : RepDV w X k vk) :
    ∀ (kvs : KVs) (ents : List MapEntry) (i : Nat) (kvs' : KVs), All2 (RepKV w X) kvs ents → delKV kk k kvs = some kvs' →
      (Instr.findNow kd vk ents i = some none ∧ kvs' = kvs) ∨ ∃ j e, Instr.findNow kd vk ents i = some (some (i + j, e.val)) ∧ ents[j]? = some e ∧ kvs' = kvs.eraseIdx j
  | [], ents, i, kvs', ha, h => by
    have : ents = [] := List.eq_nil_of_length_eq_zero ha.1.symm
    subst this
    simp only [delKV, Option.some.injEq] at h
    subst h
    exact .inl ⟨rfl, rfl⟩
  | (k', v') :: kvs, ents, i, kvs', ha, h => by
    obtain ⟨e, ents', rfl, ⟨hk', hv'⟩, ha'⟩ := ha.consL
    simp only [delKV] at h
    split at h
    · rename_i hb
      cases h
      have := sameNow_of_eqKey hk hkr hk' hb
      exact .inr ⟨0, e, by simp only [Instr.findNow, this.1, Nat.add_zero], rfl, rfl⟩
    · rename_i hb
      have := sameNow_of_eqKey hk hkr hk' hb
      split at h
      · rename_i r hr
        cases h
        rcases del_find hk hkr kvs ents' (i + 1) r ha' hr with ⟨h1, h2⟩ | ⟨j, e', h1, h2, h3⟩
        · exact .inl ⟨by simp only [Instr.findNow, this.1, h1], by simp [h2]⟩
        · exact .inr ⟨j + 1, e', by simp only [Instr.findNow, this.1, h1]; congr 3; omega, by simpa using h2, by simp [h3]⟩
      · cases h
    · cases h

/-- A map is written. -/
theorem Trans.writeMap (hH : HRel F w ρ s.obj?) {id : Id} {b c : Nat} {kvs kvs2 : KVs} {ents ents2 : Array MapEntry} {clock clock2 : Nat} (ho : s.obj? id = some (.map kvs)) (hρ : ρ id = some (b, c))
    (hb : w.heap[b]? = some (.map ents clock)) (hc : All2 (RepKV w (XOf ρ s.obj?)) kvs2 ents2.toList) (hborn : ∀ e ∈ ents2.toList, e.born < clock2) (hpw : (ents2.toList.map (·.born)).Pairwise (· < ·)) :
    Trans F s w ρ (s.setObj id (.map kvs2)) (setB w b (.map ents2 clock2)) ρ := by
  have e := obj_setObj s id (.map kvs2) _ ho
  have hrow : ∀ sz' es', O.map kvs2 = .row sz' es' ∨ O.map kvs2 = .fro sz' es' → ∃ es0, O.map kvs = .row sz' es0 ∨ O.map kvs = .fro sz' es0 := fun sz' es' h => by
    rcases h with h | h <;> cases h
  have hk : ∀ b', b' < w.heap.size → (setB w b (.map ents2 clock2)).heap[b']? = w.heap[b']? ∨ (live (O.map kvs) = true ∧ ∃ c, ρ id = some (b', c)) := fun b' _ => by
    by_cases h : b' = b
    · subst h; exact .inr ⟨rfl, c, hρ⟩
    · exact .inl (setB_other w b b' _ h)
  have hsz : w.heap.size ≤ (setB w b (.map ents2 clock2)).heap.size := by rw [setB_size]; exact Nat.le_refl _
  have st := step_set (w' := setB w b (.map ents2 clock2)) hH (o' := .map kvs2) ho (fun _ => rfl) hrow hsz hk
  rw [← e] at st
  refine ⟨st, ?_, by cases id <;> rfl, by cases id <;> simp [St.setObj], ⟨rfl, rfl, rfl⟩⟩
  rw [e]
  refine hH.set ho (fun _ => rfl) (fun _ => rfl) hrow (fun kvs h => by cases h) hsz hk ?_
  rw [← e]
  exact ⟨b, c, ents2, clock2, hρ, setB_same w b _ _ hb, hc.imp fun x y h => st.repKV h, hborn, hpw⟩

theorem All2.set {α β : Type} {R : α → β → Prop} {xs : List α} {ys : List β} {x : α} {y : β} (h : All2 R xs ys) (i : Nat) (hr : R x y) : All2 R (xs.set i x) (ys.set i y) :=
  ⟨by simp [h.1], fun j a b ha hb => by
    rw [List.getElem?_set] at ha hb
    split at ha
    · rename_i hij; subst hij
      rw [if_pos rfl] at hb
      split at ha
      · split at hb
        · cases ha; cases hb; exact hr
        · cases hb
      · cases ha
    · rename_i hij; rw [if_neg hij] at hb; exact h.2 j a b ha hb⟩

theorem All2.eraseIdx {α β : Type} {R : α → β → Prop} {xs : List α} {ys : List β} (h : All2 R xs ys) (i : Nat) : All2 R (xs.eraseIdx i) (ys.eraseIdx i) :=
  ⟨by simp only [List.length_eraseIdx, h.1], fun j a b ha hb => by
    rw [List.getElem?_eraseIdx] at ha hb
    split at ha
    · rename_i hij; rw [if_pos hij] at hb; exact h.2 j a b ha hb
    · rename_i hij; rw [if_neg hij] at hb; exact h.2 (j + 1) a b ha hb⟩

theorem run_getMap {b : Nat} {ents : Array MapEntry} {clock : Nat} (hb : w.heap[b]? = some (.map ents clock)) : (getObj b).run P w = .ok (.map ents clock) w := by simp [getObj, Sem.run, hb]
theorem run_setMap {b : Nat} {ents : Array MapEntry} {clock : Nat} {o : Obj} (hb : w.heap[b]? = some (.map ents clock)) : (setObj b o).run P w = .ok () (setB w b o) := by simp [setObj, Sem.run, hb, setB]

/-- 'mupd' -/
theorem op_mupd {t kt e : TypeId} {kk : Kd} {id : Id} {kvs kvs' : KVs} {kv xv : V} {kd xd : DV} {vm vk vx : Value} (ht : P.underlying t = some (.map kt e)) (hkk : keyKd P kt = some kk) (hH : HRel F w ρ s.obj?)
    (hm : RepAV F w ρ s.obj? (.v (.c (.map id))) vm) (hk : RepV F w ρ s.obj? kv vk) (hx : RepV F w ρ s.obj? xv vx) (ho : s.obj? id = some (.map kvs)) (hkd : s.toDV kv = some kd) (hxd : s.toDV xv = some xd)
    (hu : updKV kk kd xd kvs = some kvs') :
    ∃ w', (Instr.mapUpdate t vm vk vx).run P w = .ok () w' ∧ Trans F s w ρ (s.setObj id (.map kvs')) w' ρ := by
  obtain ⟨_, b, c, hρ, rfl⟩ := hm
  obtain ⟨b', c', ents, clock, hρ', hb, hents, hborn, hpw⟩ := hH.objs id _ ho
  rw [hρ] at hρ'; cases hρ'
  obtain ⟨kdesc, huk, hkd2, hck⟩ := keyKd_some (P := P) (w := w) hkk
  have rk := toDV_rep hH hkd hk
  have rx := toDV_rep hH hxd hx
  have hck' := hck false 9999 vk
  rcases upd_find hkd2 rk (v := xd) kvs ents.toList 0 kvs' hents hu with ⟨h1, h2⟩ | ⟨j, en, h1, h2, h3, h4⟩
  · have hfk := run_findKey (P := P) (w := w) huk h1
    refine ⟨_, ?_, Trans.writeMap (ents2 := ents.push ⟨vk, vx, clock⟩) (clock2 := clock + 1) hH ho hρ hb (by rw [h2]; simpa using hents.append (All2.cons ⟨rk, rx⟩ All2.nil)) (fun e he => ?_) ?_⟩
    · simp [Instr.mapUpdate, run_underlying ht, run_getMap hb, hck', hfk, run_setMap hb]
    · simp only [Array.toList_push, List.mem_append, List.mem_singleton] at he
      rcases he with he | he
      · have := hborn e he; omega
      · rw [he]; simp
    · simp only [Array.toList_push, List.map_append, List.map_cons, List.map_nil]
      refine List.pairwise_append.2 ⟨hpw, by simp, fun x hx y hy => ?_⟩
      simp only [List.mem_singleton] at hy; subst hy
      simp only [List.mem_map] at hx
      obtain ⟨e, he, rfl⟩ := hx
      exact hborn e he
  · have hfk := run_findKey (P := P) (w := w) huk h1
    simp only [Nat.zero_add] at hfk
    have hj : ents[j]? = some en := by simpa using h2
    have hjl : j < ents.size := (Array.getElem?_eq_some_iff.1 hj).1
    have hmod : (ents.modify j fun e => { e with key := vk, val := vx }).toList = ents.toList.set j ⟨vk, vx, en.born⟩ := by
      rw [Array.toList_modify]
      rw [List.modify_eq_set]
      simp [hj]
    have hbn : ((ents.modify j fun e => { e with key := vk, val := vx }).toList.map (·.born)) = ents.toList.map (·.born) := by
      rw [hmod, List.map_set]
      apply List.ext_getElem?
      intro k
      rw [List.getElem?_set]
      split
      · rename_i hjk; subst hjk
        have hj' := (Array.getElem?_eq_some_iff.1 hj).2
        simp [hjl, hj']
      · rfl
    refine ⟨_, ?_, Trans.writeMap (ents2 := ents.modify j fun e => { e with key := vk, val := vx }) (clock2 := clock) hH ho hρ hb (by rw [h4, hmod]; exact hents.set j ⟨rk, rx⟩) (fun e he => ?_) (by rw [hbn]; exact hpw)⟩
    · have hks : (Instr.keyThatStays (((ents[j]?).map (·.key)).getD vk) vk).run P w = .ok vk w := by
        simp only [hj, Option.map_some, Option.getD_some, Instr.keyThatStays, h3, if_true, Sem.run_pure]
      simp only [Instr.mapUpdate, Sem.run_bind, run_underlying ht, Result.andThen_ok, run_getMap hb, hck', hfk, hks, run_setMap hb]
    · have : e.born ∈ (ents.modify j fun e => { e with key := vk, val := vx }).toList.map (·.born) := List.mem_map_of_mem he
      rw [hbn] at this
      obtain ⟨e', he', hb'⟩ := List.mem_map.1 this
      rw [← hb']; exact hborn e' he'

/-- 'mdel' -/
theorem op_mdel {t u ty kt e : TypeId} {kk : Kd} {id : Id} {kvs kvs' : KVs} {kv : V} {kd : DV} {vm vk : Value} (ht : P.underlying t = some (.map kt e)) (hkk : keyKd P kt = some kk) (hH : HRel F w ρ s.obj?)
    (hm : RepAV F w ρ s.obj? (.v (.c (.map id))) vm) (hk : RepV F w ρ s.obj? kv vk) (ho : s.obj? id = some (.map kvs)) (hkd : s.toDV kv = some kd) (hu : delKV kk kd kvs = some kvs') :
    ∃ w', (Builtin.delete_ #[t, u] ty #[vm, vk]).run P w = .ok (.tuple #[]) w' ∧ Trans F s w ρ (s.setObj id (.map kvs')) w' ρ := by
  obtain ⟨_, b, c, hρ, rfl⟩ := hm
  obtain ⟨b', c', ents, clock, hρ', hb, hents, hborn, hpw⟩ := hH.objs id _ ho
  rw [hρ] at hρ'; cases hρ'
  obtain ⟨kdesc, huk, hkd2, hck⟩ := keyKd_some (P := P) (w := w) hkk
  have rk := toDV_rep hH hkd hk
  have hck' := hck ents.isEmpty 9999 vk
  rcases del_find hkd2 rk kvs ents.toList 0 kvs' hents hu with ⟨h1, h2⟩ | ⟨j, en, h1, h2, h4⟩
  · have hfk := run_findKey (P := P) (w := w) huk h1
    refine ⟨_, ?_, Trans.writeMap (ents2 := ents) (clock2 := clock) hH ho hρ hb (by rw [h2]; exact hents) hborn hpw⟩
    simp [Builtin.delete_, run_underlying ht, run_getMap hb, hck', hfk, run_setMap hb]
  · have hfk := run_findKey (P := P) (w := w) huk h1
    simp only [Nat.zero_add] at hfk
    have hj : ents[j]? = some en := by simpa using h2
    have hjl : j < ents.size := (Array.getElem?_eq_some_iff.1 hj).1
    have her : (ents.eraseIdxIfInBounds j).toList = ents.toList.eraseIdx j := by simp [Array.eraseIdxIfInBounds, hjl]
    refine ⟨_, ?_, Trans.writeMap (ents2 := ents.eraseIdxIfInBounds j) (clock2 := clock) hH ho hρ hb (by rw [h4, her]; exact hents.eraseIdx j) (fun e he => ?_) ?_⟩
    · simp [Builtin.delete_, run_underlying ht, run_getMap hb, hck', hfk, run_setMap hb]
    · rw [her] at he; exact hborn e (List.mem_of_mem_eraseIdx he)
    · rw [her]
      exact hpw.sublist ((List.eraseIdx_sublist _ _).map _)

/-- 'mkmap' -/
theorem op_mkmap {t kt e : TypeId} {r : Option Value} (ht : P.underlying t = some (.map kt e)) (hr : ∀ v, r = some v → ∃ k n, v = .int k n) (hH : HRel F w ρ s.obj?) :
    ∃ w' ρ' v, (Instr.makeMap t r).run P w = .ok v w' ∧ Trans F s w ρ (newObj s (.map [])) w' ρ' ∧ RepAV F w' ρ' (newObj s (.map [])).obj? (.v (.c (.map (.l s.loc.length)))) v := by
  refine ⟨w.alloc (.map #[] 0), _, .map (some w.heap.size), ?_, Trans.alloc hH (.map #[] 0) 0 (.map []) ?_, ?_⟩
  · cases r with
    | none => simp [Instr.makeMap]
    | some v =>
      obtain ⟨k, n, rfl⟩ := hr v rfl
      simp [Instr.makeMap, run_underlying ht, asInt, asIntOf]
  · exact ⟨w.heap.size, 0, #[], 0, updR_same _ _, heap_alloc_new w _, All2.nil, by simp, by simp⟩
  · exact ⟨by rw [new_obj?]; rfl, w.heap.size, 0, updR_same _ _, rfl⟩

/-- 'mkslice' -/
theorem op_mkslice {t e : TypeId} {zero : List D} {i : TypeInfo} {kl kc : IntKind} {n : Int} (ht : P.underlying t = some (.slice e)) (hi : P.info? e = some i)
    (hz : (do mapO dataC (← zeroC P e) : Option (List D)) = some zero) (hH : HRel F w ρ s.obj?) (h0 : 0 ≤ n) (hn : n ≤ maxRow) (hby : i.bytes ≤ 4096) (hpos : 0 < zero.length) :
    ∃ w' ρ' v, (Instr.makeSlice t (.int kl n) (.int kc n)).run P w = .ok v w' ∧ Trans F s w ρ (newObj s (.row zero.length (List.replicate n.toNat zero))) w' ρ' ∧
      RepAV F w' ρ' (newObj s (.row zero.length (List.replicate n.toNat zero))).obj? (.v (.c (.sl (.l s.loc.length) 0 n.toNat))) v := by
  obtain ⟨i', zv, hi', hzv, hsize, hrep⟩ := zeroD_rep (w := w) hz (XOf ρ s.obj?)
  rw [hi] at hi'; cases hi'
  have hmr : maxRow = 4294967296 := rfl
  have hrun := run_make (P := P) w t e i zv ht hi hzv kl kc n n h0 (Int.le_refl _) (by
    have : (i.bytes : Int) * n ≤ 4096 * 4294967296 := Int.mul_le_mul (by omega) (by omega) h0 (by omega)
    omega) (by omega)
  have hzs := RowVs.zeros n.toNat hrep
  have hzl : zv.cells.size = zero.length := by have := hrep.1; simp at this; omega
  obtain ⟨h1, h2⟩ := newRow_trans (F := F) (s := s) (w := w) (ρ := ρ) (ty := e) (cap := n.toNat) (es := List.replicate n.toNat zero) (cur := madeCells zv.cells (n.toNat * i.size)) hH hpos (by simp) (by unfold maxLen; omega)
    (by simp [madeCells, hsize]) (fun e he => by rw [List.eq_of_mem_replicate he]) (fun i' j e d he hd => by
      obtain ⟨v, hv, hr⟩ := hzs.2.2 i' j e d he hd
      refine ⟨v, ?_, hr⟩
      simp only [madeCells, hsize]
      rw [← Array.getElem?_toList]
      exact hv)
  refine ⟨_, _, _, hrun, h1, ?_⟩
  simpa using h2

/-- 'range' over a map. -/
theorem op_range {t kt e : TypeId} {id : Id} {kvs : KVs} {vm : Value} (ht : P.underlying t = some (.map kt e)) (hH : HRel F w ρ s.obj?) (hm : RepAV F w ρ s.obj? (.v (.c (.map id))) vm) (ho : s.kvsOf id = some kvs) :
    ∃ w' ρ' v, (Instr.range t vm).run P w = .ok v w' ∧ Trans F s w ρ (newObj (s.setObj id (.lock kvs)) (.iter id kvs none)) w' ρ' ∧
      RepAV F w' ρ' (newObj (s.setObj id (.lock kvs)) (.iter id kvs none)).obj? (.v (.c (.itr (.l s.loc.length)))) v := by
  have hll : (s.setObj id (.lock kvs)).loc.length = s.loc.length := by cases id <;> simp [St.setObj]
  obtain ⟨_, b, c, hρ, rfl⟩ := hm
  have hrep := kvsOf_rep hH ho
  -- the map is locked
  have lock : Trans F s w ρ (s.setObj id (.lock kvs)) w ρ ∧ (s.setObj id (.lock kvs)).obj? id = some (.lock kvs) := by
    unfold St.kvsOf at ho
    split at ho
    · rename_i ho'; cases ho
      have e1 := obj_setObj s id (.lock kvs) _ ho'
      have hrow : ∀ sz' es', O.lock kvs = .row sz' es' ∨ O.lock kvs = .fro sz' es' → ∃ es0, O.map kvs = .row sz' es0 ∨ O.map kvs = .fro sz' es0 := fun sz' es' h => by rcases h with h | h <;> cases h
      have st := step_set (w' := w) hH (o' := .lock kvs) ho' (fun _ => rfl) hrow (Nat.le_refl _) (fun _ _ => .inl rfl)
      refine ⟨⟨by rw [e1]; exact st, ?_, by cases id <;> rfl, by cases id <;> simp [St.setObj], SameW.refl _⟩, by rw [e1, upd_same]⟩
      rw [e1]
      refine hH.set ho' (fun _ => rfl) (fun _ => rfl) hrow (fun kvs h => by cases h) (Nat.le_refl _) (fun _ _ => .inl rfl) ?_
      obtain ⟨b', c', ents, clock, h1, h2, h3, h4, h5⟩ := hrep
      exact ⟨b', c', ents, clock, h1, h2, h3.imp fun x y h => st.repKV h, h4, h5⟩
    · rename_i ho'; cases ho
      have e1 := obj_setObj s id (.lock kvs) _ ho'
      have e2 : (s.setObj id (.lock kvs)).obj? = s.obj? := by
        rw [e1]; funext x; simp only [upd]; split
        · rename_i h; rw [h, ho']
        · rfl
      exact ⟨⟨by rw [e2]; exact Step.refl _ _ _, by rw [e2]; exact hH, by cases id <;> rfl, by cases id <;> simp [St.setObj], SameW.refl _⟩, by rw [e1, upd_same]⟩
    · cases ho
  obtain ⟨td, hol⟩ := lock
  obtain ⟨b', c', ents, clock, hρ', hb, hents, hborn, hpw⟩ := td.H.objs id _ hol
  rw [hρ] at hρ'; cases hρ'
  have st2 := step_alloc td.H (obj_new_none (s.setObj id (.lock kvs))) (.mapIter (some b) clock #[] clock) 0 (.iter id kvs none)
  rw [← obj_newObj] at st2
  have hne : id ≠ .l (s.setObj id (.lock kvs)).loc.length := by intro e; have := obj_new_none (s.setObj id (.lock kvs)); rw [← e, hol] at this; cases this
  refine ⟨w.alloc (.mapIter (some b) clock #[] clock), _, .pointer (some ⟨w.heap.size, 0, none⟩), ?_, td.trans (Trans.alloc td.H (.mapIter (some b) clock #[] clock) 0 (.iter id kvs none) ?_), ?_⟩
  · simp [Instr.range, run_underlying ht, run_getMap hb]
  · refine ⟨w.heap.size, 0, b, c, ents, clock, #[], updR_same _ _, by rw [updR_ne hne]; exact hρ, ⟨kvs, by rw [obj_newObj, upd_ne hne]; exact hol⟩, ?_, heap_alloc_new w _, ?_, fun kv h => by cases h⟩
    · rw [heap_alloc_old w _ (held_lt td.H hol rfl hρ)]; exact hb
    · have : (ents.toList.filter fun e => !(#[] : Array Nat).contains e.born) = ents.toList := by simp
      rw [this]
      exact hents.imp fun x y h => st2.repKV h
  · rw [← hll]
    exact ⟨by rw [new_obj?]; rfl, w.heap.size, 0, updR_same _ _, rfl⟩
end
end Go.Aiv

