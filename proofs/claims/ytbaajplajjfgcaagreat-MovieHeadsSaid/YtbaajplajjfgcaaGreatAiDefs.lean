/- The abstract interpreter: definitions. A big-step evaluator of the model's code over pure values (integers, bools, bytes, lists), and boxes for what lies in memory. -/
import Derived.Calls
import Derived.Laws.Sem
namespace Go.AI
open Go

/-- pure values -/
inductive PV where
  | i (n : Int)
  | b (b : Bool)
  | s (s : List UInt8)
  | l (es : List (List PV))
  | f (fn : FuncId) (n : Nat)
  | u
  deriving Inhabited

def PV.toI : PV → Int | .i n => n | _ => 0
def PV.toB : PV → Bool | .b n => n | _ => false
def PV.toS : PV → List UInt8 | .s n => n | _ => []
def PV.toL : PV → List (List PV) | .l n => n | _ => []

/-- names of boxes: passed; a row of a slot; a row in a box's cell; a row of an argument; fresh (region, operation, number) -/
inductive Id where
  | p (i : Nat) | w (t : Nat) | c (id : Id) (o : Nat) | a (i c : Nat) | n (r i c : Nat)
  /-- on the way from caller to callee, or back (in proofs alone) -/
  | z (r i : Nat) (id : Id)
def Id.beq : Id → Id → Bool
  | .p x, .p y => Nat.beq x y
  | .w x, .w y => Nat.beq x y
  | .c x k, .c y l => x.beq y && Nat.beq k l
  | .a x k, .a y l => Nat.beq x y && Nat.beq k l
  | .z x k u, .z y l v => Nat.beq x y && (Nat.beq k l && u.beq v)
  | .n x k u, .n y l v => Nat.beq x y && (Nat.beq k l && Nat.beq u v)
  | _, _ => false

/-- one cell -/
inductive AL where
  | int (k : IntKind) (n : Int)
  | bool (b : Bool)
  | str (s : List UInt8)
  | sl (e : TypeId) (es : List (List PV))
  | nils
  | ptr (id : Id) (off : Nat)
  | ep (e : TypeId) (es : List (List PV)) (i : Int) (off : Nat)
  | wr (id : Id)
  | wp (id : Id) (i : Int) (off : Nat)
  | nilp
  | fn (f : FuncId) (cap : List Id)
  | dead
  deriving Inhabited

inductive AV where
  | v (l : AL)
  | agg (ls : List AL)
  | tup (vs : List AV)
  /-- what stands on a slot whose operation was passed over -/
  | und
  /-- whatever -/
  | any
  deriving Inhabited

/-- cells of a variable; the same, never written again; the elements of a slice that nobody else sees -/
inductive Box where
  | cells (t : TypeId) (cs : List AL)
  | froz (t : TypeId) (cs : List AL)
  | row (e : TypeId) (es : List (List PV))

structure St where
  tmps : Nat → AV
  boxes : Id → Option Box
  /-- how many regions were done -/
  r : Nat
  /-- how many slots there are -/
  nt : Nat
  /-- elder boxes may not be touched -/
  q : Bool

/-- how a slot is kept: as it is; a plain slice; a row; the row of another slot -/
inductive SK where
  | any | pl (e : TypeId) | row (e : TypeId) | al (t : Nat)

/-- what a loop or a cut keeps: slots, boxes -/
structure Keep where
  slots : List (Nat × SK)
  boxes : List Id
  r : Nat
  /-- cells of boxes that are rows -/
  own : List (Id × Nat) := []

/-- notes on a program's functions: they steer the interpreter, nothing hangs on their truth -/
structure Ann where
  /-- of function and block: what a loop keeps; none: it is unrolled -/
  loop : FuncId → Nat → Option Keep
  /-- of function and region: a cut ahead of it -/
  cut : FuncId → Nat → Option Keep
  /-- types of boxes whose slices may grow -/
  ownT : TypeId → TypeId → Bool
  /-- functions whose slice arguments, whose slice results may grow -/
  ownA : FuncId → TypeId → Bool
  ownR : FuncId → TypeId → Bool
  /-- slots of function whose literal slice is a row -/
  wrT : FuncId → Nat → Bool
  /-- answers that are given by hand -/
  prim : FuncId → List PV → List (TypeId × List PV) → Option (List PV × List (TypeId × List PV)) := fun _ _ _ => none

inductive LTy where
  | int (k : IntKind) | bool | str | sl (e : TypeId) | ptr (e : TypeId) | fn | no
  deriving Inhabited

def LTy.plain : LTy → Bool
  | .ptr _ | .fn | .no => false
  | _ => true

def goS (f : TypeId → Option (List LTy)) : List Field → Nat → Option (List LTy)
  | [], _ => some []
  | x :: xs, off =>
    bif Nat.beq x.offset off then
      match f x.type with
      | some l => match goS f xs (off + l.length) with
        | some m => some (l ++ m)
        | none => none
      | none => none
    else none

def leavesF (P : Program) : Nat → TypeId → Option (List LTy)
  | 0, _ => none
  | d + 1, t =>
    match P.underlying t with
    | some .bool => some [.bool]
    | some (.int k) => some [.int k]
    | some .string => some [.str]
    | some (.slice e) => some [.sl e]
    | some (.pointer e) => some [.ptr e]
    | some (.func _ _ _) => some [.fn]
    | some (.struct fs) => goS (leavesF P d) fs.toList 0
    | some (.array n e) => match leavesF P d e with
      | some l => some (List.replicate n l).flatten
      | none => none
    | some _ => some [.no]
    | none => none

/-- the cells of a type, if it has the size that the program says -/
def leaves (P : Program) (t : TypeId) : Option (List LTy) :=
  match leavesF P 12 t, P.info? t with
  | some l, some i => bif Nat.beq i.size l.length then some l else none
  | _, _ => none

def isAggB (P : Program) (t : TypeId) : Bool :=
  match P.underlying t with
  | some (.struct _) | some (.array _ _) => true
  | _ => false

def ofConst : Value → AL
  | .int k n => .int k n
  | .bool b => .bool b
  | .string s => .str s.data.toList
  | .slice none 0 0 => .nils
  | .pointer none => .nilp
  | _ => .dead

def zeroL (P : Program) (t : TypeId) : Option (List AL) :=
  match P.info? t with
  | some i => match i.zero with
    | some z => bif z.cells.toList.all Value.oneCell' then some (z.cells.toList.map ofConst) else none
    | none => none
  | none => none

def mkAV (P : Program) (t : TypeId) (ls : List AL) : Option AV :=
  bif isAggB P t then some (.agg ls) else
    match ls with
    | [l] => some (.v l)
    | _ => none

def AV.ls : AV → Option (List AL)
  | .v l => some [l]
  | .agg ls => some ls
  | _ => none

def decL : LTy → PV → AL
  | .int k, p => .int k p.toI
  | .bool, p => .bool p.toB
  | .str, p => .str p.toS
  | .sl e, p => .sl e p.toL
  | _, _ => .dead

def decs : List LTy → List PV → Nat → List AL
  | [], _, _ => []
  | t :: ts, ps, c => decL t (ps.getD c .u) :: decs ts ps (c + 1)

def pvL : LTy → AL → Option PV
  | .int k, .int k' n => bif decide (k = k') then some (.i n) else none
  | .bool, .bool b => some (.b b)
  | .str, .str s => some (.s s)
  | .sl e, .sl e' es => bif Nat.beq e e' then some (.l es) else none
  | .sl _, .nils => some (.l [])
  | _, _ => none
def pvs : List LTy → List AL → Option (List PV)
  | [], [] => some []
  | t :: ts, l :: ls => match pvL t l, pvs ts ls with
    | some p, some ps => some (p :: ps)
    | _, _ => none
  | _, _ => none

abbrev BX := TypeId × List PV
abbrev Res := List PV × List BX
abbrev CallF := FuncId → List PV → List BX → Option Res

/-- what an operation does with the state, step by step -/
inductive Acc where
  | done
  | fail
  | getT (t : Nat) (k : AV → Acc)
  | getB (id : Id) (k : Option Box → Acc)
  | setT (d : Nat) (v : AV) (k : Acc)
  | setB (id : Id) (b : Option Box) (k : Acc)
  | test (b : Bool) (k : Acc)
  | fork (b : Bool) (x y : Acc)
  | br (d : Nat) (want : Bool) (x y : Acc)
  | call (f : FuncId) (ps : List PV) (bs : List BX) (k : Res → Acc)

def St.set (st : St) (d : Nat) (v : AV) : St := { st with tmps := fun t => bif Nat.beq t d then v else st.tmps t }
def St.setB (st : St) (id : Id) (b : Option Box) : St := { st with boxes := fun x => bif x.beq id then b else st.boxes x }

/-- was a box made in this region? -/
def Id.fresh (r : Nat) : Id → Bool
  | .n r' _ _ => Nat.beq r' r
  | _ => false

def Acc.run {α : Type} (call : CallF) : Acc → St → (St → Option α) → Option α
  | .done, st, K => K st
  | .fail, _, _ => none
  | .getT t k, st, K => (k (st.tmps t)).run call st K
  | .getB id k, st, K => (k (st.boxes id)).run call st K
  | .setT d v k, st, K => bif Nat.blt d st.nt then k.run call (st.set d v) K else none
  | .setB id b k, st, K => bif !st.q || id.fresh st.r then k.run call (st.setB id b) K else none
  | .test b k, st, K => bif b then k.run call st K else none
  | .fork b x y, st, K => bif b then x.run call st K else y.run call st K
  | .br d want x y, st, K => match st.tmps d with
    | .v (.bool b) => match want with
      | true => bif b then x.run call (st.set d (.v (.bool true))) K else y.run call (st.set d (.v (.bool false))) K
      | false => bif b then y.run call (st.set d (.v (.bool true))) K else x.run call (st.set d (.v (.bool false))) K
    | .und => y.run call st K
    | _ => none
  | .call f ps bs k, st, K => bif !st.q || bs.isEmpty then (call f ps bs).bind fun r => (k r).run call st K else none

/-- a value or the end -/
def orFail {α : Type} (o : Option α) (k : α → Acc) : Acc := match o with | some x => k x | none => .fail

def evK (o : Operand) (k : AV → Acc) : Acc :=
  match o with
  | .tmp t => .getT t k
  | .const (.agg cs) => k (bif cs.toList.all Value.oneCell' then .agg (cs.toList.map ofConst) else .any)
  | .const v => k (bif v.oneCell' then .v (ofConst v) else .any)
  | .func f => k (.v (.fn f []))
  | .global _ => k .any
def evsK : List Operand → (List AV → Acc) → Acc
  | [], k => k []
  | o :: os, k => evK o fun v => evsK os fun vs => k (v :: vs)
/-- what is laid on a slot -/
def putK (d : Option Tmp) (v : AV) (k : Acc) : Acc :=
  match d with
  | none => k
  | some d => .setT d v k

def bitsOp (op : BinOp) (k : IntKind) (x y : Int) : Int :=
  k.wrap (match op with
    | .and => (BitVec.ofInt k.bits x &&& BitVec.ofInt k.bits y).toNat
    | .or => (BitVec.ofInt k.bits x ||| BitVec.ofInt k.bits y).toNat
    | .xor => (BitVec.ofInt k.bits x ^^^ BitVec.ofInt k.bits y).toNat
    | _ => (BitVec.ofInt k.bits x &&& ~~~ BitVec.ofInt k.bits y).toNat : Nat)
def shl (k : IntKind) (x y : Int) : Int := k.wrap (x * 2 ^ (min y.toNat k.bits))
def shr (k : IntKind) (x y : Int) : Int := x.fdiv (2 ^ (min y.toNat k.bits))

def eqT : LTy → AL → AL → Option Bool
  | .int k, .int k' a, .int k'' b => bif decide (k = k') && decide (k = k'') then some (a == b) else none
  | .bool, .bool a, .bool b => some (a == b)
  | .str, .str a, .str b => some (a == b)
  | _, _, _ => none
def eqTs : List LTy → List AL → List AL → Option Bool
  | [], [], [] => some true
  | [t], [a], [b] => eqT t a b
  | t :: ts, a :: as, b :: bs => match eqT t a b, eqTs ts as bs with
    | some x, some y => some (x && y)
    | _, _ => none
  | _, _, _ => none

/-- may values of a type be compared cell by cell? -/
def eqTyF (P : Program) : Nat → TypeId → Bool
  | 0, _ => false
  | d + 1, t => match P.underlying t with
    | some .bool | some (.int _) | some .string => true
    | some (.struct fs) => !P.stoodInHeld t && fs.toList.all fun f => f.name != "_" && ((leaves P f.type).isSome && eqTyF P d f.type)
    | some (.array _ e) => (leaves P e).isSome && eqTyF P d e
    | _ => false

section ops
variable (P : Program) (A : Ann) (F : FuncId)

/-- two-place operations: a condition (which must hold), and the value -/
def bin (op : BinOp) (t : TypeId) (x y : AV) : Option (Bool × AL) :=
  match op, x, y with
  | .shl, .v (.int k a), .v (.int _ b) => some (decide (0 ≤ b), .int k (shl k a b))
  | .shr, .v (.int k a), .v (.int _ b) => some (decide (0 ≤ b), .int k (shr k a b))
  | op, .v (.int k a), .v (.int k' b) =>
    bif decide (k = k') then
      match op with
      | .add => some (true, .int k (k.wrap (a + b)))
      | .sub => some (true, .int k (k.wrap (a - b)))
      | .mul => some (true, .int k (k.wrap (a * b)))
      | .quo => some (b != 0, .int k (k.wrap (a.tdiv b)))
      | .rem => some (b != 0, .int k (a.tmod b))
      | .eql => some (true, .bool (a == b))
      | .neq => some (true, .bool (a != b))
      | .lss => some (true, .bool (decide (a < b)))
      | .leq => some (true, .bool (decide (a ≤ b)))
      | .gtr => some (true, .bool (decide (a > b)))
      | .geq => some (true, .bool (decide (a ≥ b)))
      | op => some (true, .int k (bitsOp op k a b))
    else none
  | .add, .v (.str a), .v (.str b) => some (decide (a.length + b.length ≤ 2 ^ 40), .str (a ++ b))
  | .eql, .v (.str a), .v (.str b) => some (true, .bool (a == b))
  | .neq, .v (.str a), .v (.str b) => some (true, .bool (!(a == b)))
  | .eql, .v (.bool a), .v (.bool b) => match P.underlying t with | some .bool => some (true, .bool (a == b)) | _ => none
  | .neq, .v (.bool a), .v (.bool b) => match P.underlying t with | some .bool => some (true, .bool (!(a == b))) | _ => none
  | .eql, .agg a, .agg b => bif eqTyF P 12 t && isAggB P t then (match leaves P t with | some ts => (match eqTs ts a b with | some c => some (true, .bool c) | none => none) | none => none) else none
  | .neq, .agg a, .agg b => bif eqTyF P 12 t && isAggB P t then (match leaves P t with | some ts => (match eqTs ts a b with | some c => some (true, .bool (!c)) | none => none) | none => none) else none
  | _, _, _ => none

def un (op : UnOp) (x : AV) : Option AL :=
  match op, x with
  | .neg, .v (.int k n) => some (.int k (k.wrap (0 - n)))
  | .xor, .v (.int k n) => some (.int k (bitsOp .xor k (if k.signed then -1 else k.max) n))
  | .not, .v (.bool b) => some (.bool (!b))
  | _, _ => none

def toBytes (es : List (List PV)) : List UInt8 := es.map fun e => UInt8.ofNat (e.getD 0 .u).toI.toNat
def ofBytes (s : List UInt8) : List (List PV) := s.map fun b => [PV.i b.toNat]
def bt (s : List UInt8) (i : Int) : Int := (s.getD i.toNat 0).toNat
def elemAt (es : List (List PV)) (i : Int) : List PV := es.getD i.toNat []
def inB (i : Int) (n : Nat) : Bool := decide (0 ≤ i) && decide (i < (n : Int))

/-- cells put over others from a place on -/
def putAt {α : Type} (cs : List α) (off : Nat) (ls : List α) : List α := cs.take off ++ ls ++ cs.drop (off + ls.length)
def cutAt {α : Type} (cs : List α) (off n : Nat) : List α := (cs.drop off).take n

def fieldOf (s : TypeId) (f : Nat) : Option Field :=
  match P.underlying s with
  | some (.struct fs) => fs[f]?
  | _ => none

def addOff : AL → Nat → Option AL
  | .ptr id o, k => some (.ptr id (o + k))
  | .ep e es i o, k => some (.ep e es i (o + k))
  | .wp id i o, k => some (.wp id i (o + k))
  | _, _ => none

/-- cells of an element -/
def elCells (e : TypeId) (es : List (List PV)) (i : Int) (o n : Nat) : Option (List AL) :=
  match leaves P e with
  | some ts => bif Nat.ble (o + n) ts.length then some (decs (cutAt ts o n) (elemAt es i) o) else none
  | none => none

/-- what a place in memory holds -/
def loadK (t : TypeId) (a : AL) (k : List AL → Acc) : Acc :=
  orFail (leaves P t) fun ts =>
    match a with
    | .ptr id o => .getB id fun
      | some (.cells _ cs) => .test (Nat.ble (o + ts.length) cs.length) (k (cutAt cs o ts.length))
      | some (.froz _ cs) => .test (Nat.ble (o + ts.length) cs.length) (k (cutAt cs o ts.length))
      | _ => .fail
    | .ep e es i o => orFail (elCells P e es i o ts.length) k
    | .wp id i o => .getB id fun
      | some (.row e es) => .test (inB i es.length) (orFail (elCells P e es i o ts.length) k)
      | _ => .fail
    | _ => .fail

/-- what is handed over: cells, boxes; rows become plain -/
def packK (fnOk : Bool) (own : TypeId → Bool) (t : LTy) (l : AL) (k : PV → List Id → Acc) : Acc :=
  match t, l with
  | .ptr e, .ptr id 0 => .getB id fun
    | some (.cells t _) => .test (Nat.beq t e) (k .u [id])
    | _ => .fail
  | .fn, .fn f cap => .test fnOk (k (.f f cap.length) cap)
  | .sl e, .wr id => .getB id fun
    | some (.row e' es) => .test (Nat.beq e e') (.setB id none (k (.l es) []))
    | _ => .fail
  | .sl e, .sl e' es => .test (!own e && Nat.beq e e') (k (.l es) [])
  | .sl e, .nils => .test (!own e || (leaves P e).isSome) (k (.l []) [])
  | t, l => orFail (pvL t l) fun p => k p []
def packsK (fnOk : Bool) (own : TypeId → Bool) : List LTy → List AL → (List PV → List Id → Acc) → Acc
  | [], [], k => k [] []
  | t :: ts, l :: ls, k => packK P fnOk own t l fun p ids => packsK fnOk own ts ls fun ps ids' => k (p :: ps) (ids ++ ids')
  | _, _, _ => .fail
/-- may a value of a type be handed over as this? -/
def okHand (t : TypeId) (lts : List LTy) (v : AV) : Bool :=
  (match lts with
    | [.ptr _] | [.fn] => !isAggB P t
    | _ => lts.all LTy.plain) &&
  match v with
  | .agg _ => isAggB P t
  | .v _ => !isAggB P t
  | _ => false
def packVsK (fnOk : Bool) (own : TypeId → Bool) : List TypeId → List AV → (List PV → List Id → Acc) → Acc
  | [], [], k => k [] []
  | t :: ts, v :: vs, k => orFail (leaves P t) fun lts => orFail v.ls fun ls => .test (okHand P t lts v) <|
    packsK P fnOk own lts ls fun ps ids => packVsK fnOk own ts vs fun ps' ids' => k (ps ++ ps') (ids ++ ids')
  | _, _, _ => .fail

/-- a box as what is handed over; it is gone from the state -/
def bxK (id : Id) (k : BX → Acc) : Acc := .getB id fun
  | some (.cells t cs) => .setB id none (orFail (leaves P t) fun ts => .test (ts.all LTy.plain) <| packsK P false (A.ownT t) ts cs fun ps ids => match ids with
    | [] => k (t, ps)
    | _ => .fail)
  | _ => .fail
def bxsK : List Id → (List BX → Acc) → Acc
  | [], k => k []
  | id :: ids, k => bxK P A id fun b => bxsK ids fun bs => k (b :: bs)

/-- cells that are taken over; a slice of what may grow is a row -/
def decO (own : TypeId → Bool) (mk : Nat → Id) : List LTy → List PV → Nat → List AL
  | [], _, _ => []
  | .sl e :: ts, ps, c => (bif own e then .wr (mk c) else .sl e (ps.getD c .u).toL) :: decO own mk ts ps (c + 1)
  | t :: ts, ps, c => decL t (ps.getD c .u) :: decO own mk ts ps (c + 1)
def rowsO (own : TypeId → Bool) (mk : Nat → Id) : List LTy → List PV → Nat → List (Id × Box)
  | [], _, _ => []
  | .sl e :: ts, ps, c => bif own e then (mk c, .row e (ps.getD c .u).toL) :: rowsO own mk ts ps (c + 1) else rowsO own mk ts ps (c + 1)
  | _ :: ts, ps, c => rowsO own mk ts ps (c + 1)
def setBsK : List (Id × Box) → Acc → Acc
  | [], k => k
  | (id, b) :: l, k => .setB id (some b) (setBsK l k)

/-- a value that was handed over; the number of the next box -/
def hand1 (own : TypeId → Bool) (t : TypeId) (lts : List LTy) (ps : List PV) (c j : Nat) : Option (AV × Nat) :=
  match lts with
  | [.ptr _] => some (.v (.ptr (.p j) 0), j + 1)
  | [.fn] => match ps.getD c .u with
    | .f f n => some (.v (.fn f ((List.range n).map fun x => .p (j + x))), j + n)
    | _ => none
  | _ => bif lts.all LTy.plain then (match mkAV P t (decO own (.a 0) lts ps c) with
    | some v => some (v, j)
    | none => none) else none
/-- values that were handed over; rows among them; the number of the next box -/
def handV (own : TypeId → Bool) : List TypeId → List PV → Nat → Nat → Option (List AV × List (Id × Box) × Nat)
  | [], _, _, j => some ([], [], j)
  | t :: ts, ps, c, j => match leaves P t with
    | some lts => match hand1 P own t lts ps c j with
      | some (v, j') => match handV own ts ps (c + lts.length) j' with
        | some (l, ms, n) => some (v :: l, rowsO own (.a 0) lts ps c ++ ms, n)
        | none => none
      | none => none
    | none => none
/-- boxes that were handed over -/
def handB : List BX → Nat → Option (List (Id × Box))
  | [], _ => some []
  | (t, ps) :: bs, j => match leaves P t, handB bs (j + 1) with
    | some ts, some l => some ((.p j, .cells t (decO (A.ownT t) (.c (.p j)) ts ps 0)) :: rowsO (A.ownT t) (.c (.p j)) ts ps 0 ++ l)
    | _, _ => none
/-- types of boxes that come with results -/
def newTs : List TypeId → List TypeId
  | [] => []
  | t :: ts => match leaves P t with
    | some [.ptr e] => e :: newTs ts
    | _ => newTs ts
def retag : List TypeId → List BX → Nat → List BX
  | [], _, _ => []
  | t :: ts, bs, i => (t, (bs.getD i (0, [])).2) :: retag ts bs (i + 1)

def memI (id : Id) : List Id → Bool
  | [] => false
  | x :: l => id.beq x || memI id l
def nodupI : List Id → Bool
  | [] => true
  | x :: l => !memI x l && nodupI l

/-- the caller's names of what comes back -/
def gT (r j : Nat) (ids : List Id) : Id → Id
  | .p i => bif Nat.blt i ids.length then ids.getD i (.p 0) else .n r j 0
  | .c (.p i) c => .n r j (1000 * (i + 1) + c)
  | .a _ c => .n r j (1 + c)
  | x => x

def AL.mapId (g : Id → Id) : AL → AL
  | .ptr id o => .ptr (g id) o
  | .wr id => .wr (g id)
  | .wp id i o => .wp (g id) i o
  | .fn f cap => .fn f (cap.map g)
  | l => l
def AV.mapId (g : Id → Id) : AV → AV
  | .v l => .v (l.mapId g)
  | .agg ls => .agg (ls.map (AL.mapId g))
  | _ => .any
def Box.mapId (g : Id → Id) : Box → Box
  | .cells t cs => .cells t (cs.map (AL.mapId g))
  | .froz t cs => .froz t (cs.map (AL.mapId g))
  | .row e es => .row e es

def oneV : List AV → AV
  | [v] => v
  | vs => .tup vs

/-- what is taken back -/
def backK (r j : Nat) (tys : List TypeId) (res : Res) (rts : List TypeId) (own : TypeId → Bool) (ids : List Id) (k : AV → Acc) : Acc :=
  orFail (handV P own rts res.1 0 ids.length) fun (vs, ms, _) =>
  orFail (handB P A (retag (tys ++ newTs P rts) res.2 0) 0) fun bl =>
  .test (nodupI ((ms ++ bl).map fun x => gT r j ids x.1)) <|
  setBsK ((ms ++ bl).map fun x => (gT r j ids x.1, x.2.mapId (gT r j ids))) <| k (oneV (vs.map (AV.mapId (gT r j ids))))
/-- a call: what is handed over, and what is taken back -/
def callK (r j : Nat) (f : FuncId) (cap : List Id) (args : List AV) (k : AV → Acc) : Acc :=
  orFail P.funcs[f]? fun fn =>
  packVsK P true (A.ownA f) fn.params.toList args fun ps ids =>
  .test (Nat.beq fn.nfree cap.length) <|
  bxsK P A (ids ++ cap) fun bs =>
  .call f ps bs fun res => backK P A r j (bs.map (·.1)) res fn.resultTypes.toList (A.ownR f) (ids ++ cap) k

def foldMM (mx : Bool) : AL → List AV → Option AL
  | l, [] => some l
  | .int k x, .v (.int k' y) :: vs => bif decide (k = k') then foldMM mx (.int k (bif mx then (bif decide (y > x) then y else x) else (bif decide (y < x) then y else x))) vs else none
  | _, _ => none

/-- a slice of a list: bounds -/
def bndK (o : Option Operand) (dflt : Int) (k : Int → Acc) : Acc :=
  match o with
  | none => k dflt
  | some o => evK o fun
    | .v (.int _ n) => k n
    | _ => .fail
def okB (l h : Int) (n : Nat) : Bool := decide (0 ≤ l) && (decide (l ≤ h) && decide (h ≤ (n : Int)))
def cutL {α : Type} (l h : Int) (xs : List α) : List α := (xs.take h.toNat).drop l.toNat

/-- parts laid into cells -/
def fillL (place : Nat → Option (Nat × Nat)) (cs : List AL) : List (Nat × AV) → Option (List AL)
  | [] => some cs
  | (i, v) :: rest =>
    match place i, v.ls with
    | some (off, n), some ls => bif Nat.beq ls.length n && Nat.ble (off + n) cs.length then fillL place (putAt cs off ls) rest else none
    | _, _ => none
def buildL (t : TypeId) (parts : List (Nat × AV)) : Option (List AL) :=
  match zeroL P t, P.underlying t with
  | some z, some (.struct fs) =>
    bif fs.toList.all (fun f => (P.info? f.type).isSome) then fillL (fun i => match fs[i]? with | some f => (match P.info? f.type with | some j => some (f.offset, j.size) | none => none) | none => none) z parts else none
  | some z, some (.array _ e) =>
    match P.info? e with
    | some j => fillL (fun i => some (i * j.size, j.size)) z parts
    | none => none
  | _, _ => none

def zeroP (e : TypeId) : Option (List PV) :=
  match zeroL P e, leaves P e with
  | some z, some ts => pvs ts z
  | _, _ => none

/-- parts laid into the elements of a new list -/
def fillEK (e : TypeId) (es : List (List PV)) : List (Nat × AV) → (List (List PV) → Acc) → Acc
  | [], k => k es
  | (i, v) :: rest, k => orFail (leaves P e) fun ts => orFail v.ls fun ls => .test (ts.all LTy.plain) <| packsK P false (fun _ => false) ts ls fun ps ids => match ids with
    | [] => .test (Nat.blt i es.length) (fillEK e (es.set i ps) rest k)
    | _ => .fail

def sliceElem (t : TypeId) : Option TypeId := match P.underlying t with | some (.slice e) => some e | _ => none

/-- is what a slice holds bytes? -/
def isBytes (t : TypeId) : Bool := match P.underlying t with
  | some (.slice e) => (match P.underlying e with | some (.int .u8) => true | _ => false)
  | _ => false

/-- a list's elements -/
def listK (e : TypeId) (l : AL) (k : List (List PV) → Acc) : Acc :=
  match l with
  | .sl e' es => .test (Nat.beq e e') (k es)
  | .nils => k []
  | .wr id => .getB id fun
    | some (.row e' es) => .test (Nat.beq e e') (k es)
    | _ => .fail
  | _ => .fail

def elemBytes (e : TypeId) : Nat := match P.info? e with | some i => i.bytes | none => 0

/-- append -/
def appendK (nid : Id) (e : TypeId) (s : AL) (xs : List (List PV)) (k : AL → Acc) : Acc :=
  orFail (leaves P e) fun ts => orFail (zeroL P e) fun z => .test (Nat.beq z.length ts.length) <|
  match s with
  | .nils => .test (decide (xs.length * elemBytes P e ≤ 2 ^ 47) && decide (xs.length ≤ 2 ^ 62)) (.setB nid (some (.row e xs)) (k (.wr nid)))
  | .wr id => .getB id fun
    | some (.row e' es) => .test (Nat.beq e e') (.test (decide ((es.length + xs.length) * elemBytes P e ≤ 2 ^ 47) && decide (es.length + xs.length ≤ 2 ^ 62)) (.setB id none (.setB nid (some (.row e (es ++ xs))) (k (.wr nid)))))
    | _ => .fail
  | _ => .fail

/-- an array in a box as a slice: the box is not written again -/
def sliceArrK (e : TypeId) (n : Nat) (id : Id) (off : Nat) (l h : Int) (k : AL → Acc) : Acc :=
  match id with
  | .n _ _ _ => orFail (leaves P e) fun ts => .getB id fun b =>
    match b with
    | some (.cells t cs) => .test (okB l h n && Nat.ble (off + n * ts.length) cs.length) <|
      orFail (pvs (List.replicate n ts).flatten (cutAt cs off (n * ts.length))) fun ps =>
      .setB id (some (.froz t cs)) (k (.sl e (cutL l h ((List.range n).map fun i => cutAt ps (i * ts.length) ts.length))))
    | some (.froz _ cs) => .test (okB l h n && Nat.ble (off + n * ts.length) cs.length) <|
      orFail (pvs (List.replicate n ts).flatten (cutAt cs off (n * ts.length))) fun ps =>
      k (.sl e (cutL l h ((List.range n).map fun i => cutAt ps (i * ts.length) ts.length)))
    | _ => .fail
  | _ => .fail

def capsOf : List AV → Option (List Id)
  | [] => some []
  | .v (.ptr id 0) :: vs => match capsOf vs with
    | some l => some (id :: l)
    | none => none
  | _ => none

/-- one operation: number j of region r -/
def opK (o : Oper) (r j : Nat) : Acc :=
  let nid : Id := .n r j 0
  match o.op with
  | .move x | .assign x => evK x fun v => putK o.dst v .done
  | .pick c a b => evK c fun
    | .v (.bool t) => .fork t (evK a fun v => putK o.dst v .done) (evK b fun v => putK o.dst v .done)
    | _ => .fail
  | .alloc e => orFail (zeroL P e) fun z => .setB nid (some (.cells e z)) (putK o.dst (.v (.ptr nid 0)) .done)
  | .box e x => evK x fun v => orFail v.ls fun ls => orFail (leaves P e) fun ts =>
    .test (Nat.beq ls.length ts.length) (.setB nid (some (.cells e ls)) (putK o.dst (.v (.ptr nid 0)) .done))
  | .build t parts => evsK (parts.toList.map (·.2)) fun vs => orFail (buildL P t ((parts.toList.map (·.1)).zip vs)) fun ls => putK o.dst (.agg ls) .done
  | .buildSlice t n parts => evsK (parts.toList.map (·.2)) fun vs => orFail (sliceElem P t) fun e => orFail (zeroP P e) fun z =>
    .test (Nat.ble (n * z.length) 100000) <| fillEK P e (List.replicate n z) ((parts.toList.map (·.1)).zip vs) fun es =>
    bif (match o.dst with | some d => A.wrT F d | none => false) then .setB nid (some (.row e es)) (putK o.dst (.v (.wr nid)) .done)
    else putK o.dst (.v (.sl e es)) .done
  | .load t a => evK a fun
    | .v a => loadK P t a fun ls => orFail (mkAV P t ls) fun v => putK o.dst v .done
    | _ => .fail
  | .store t a x => .test o.dst.isNone <| evK a fun
    | .v (.ptr id off) => evK x fun v => orFail v.ls fun ls => orFail (leaves P t) fun ts => .test (Nat.beq ls.length ts.length) <| .getB id fun
      | some (.cells bt cs) => .test (Nat.ble (off + ls.length) cs.length) (.setB id (some (.cells bt (putAt cs off ls))) (putK o.dst .any .done))
      | _ => .fail
    | .v (.wp id i off) => evK x fun v => orFail v.ls fun ls => orFail (leaves P t) fun ts => .test (Nat.beq ls.length ts.length) <| .getB id fun
      | some (.row e es) => .test (inB i es.length) <| orFail (leaves P e) fun ets => .test (Nat.ble (off + ls.length) ets.length) <|
        orFail (pvs (cutAt ets off ls.length) ls) fun ps =>
        .setB id (some (.row e (es.set i.toNat (putAt (elemAt es i) off ps)))) (putK o.dst .any .done)
      | _ => .fail
    | _ => .fail
  | .nilCheck x => evK x fun
    | .v (.ptr id n) => putK o.dst (.v (.ptr id n)) .done
    | _ => .fail
  | .binOp op t x y _ => evK x fun a => evK y fun b => orFail (bin P op t a b) fun (c, l) => .test c (putK o.dst (.v l) .done)
  | .unOp op _ x => evK x fun v => orFail (un op v) fun l => putK o.dst (.v l) .done
  | .convert s d x => evK x fun v => match P.underlying d, v with
    | some (.int k), .v (.int _ n) => .test (P.underlying s).isSome (putK o.dst (.v (.int k (k.wrap n))) .done)
    | some .string, .v (.str b) => .test (P.underlying s).isSome (putK o.dst (.v (.str b)) .done)
    | some .string, .v l => .test (isBytes P s) <| orFail (sliceElem P s) fun e => listK e l fun es => putK o.dst (.v (.str (toBytes es))) .done
    | some (.slice e), .v (.str b) => .test (isBytes P d) <| .test (P.underlying s).isSome <| orFail (leaves P e) fun _ => .setB nid (some (.row e (ofBytes b))) (putK o.dst (.v (.wr nid)) .done)
    | _, _ => .fail
  | .makeFunc (.func f) first captured => .test first.isEmpty <| evsK captured.toList fun vs => orFail (capsOf vs) fun ids => putK o.dst (.v (.fn f ids)) .done
  | .makeSlice t l c => evK l fun l => evK c fun c => orFail (sliceElem P t) fun e => orFail (zeroP P e) fun z => match l, c with
    | .v (.int _ l), .v (.int _ c) => .test (decide (0 ≤ l) && (decide (l ≤ c) && decide (c ≤ 2 ^ 30))) <| .test (Nat.ble (elemBytes P e) 10000) <|
      .setB nid (some (.row e (List.replicate l.toNat z))) (putK o.dst (.v (.wr nid)) .done)
    | _, _ => .fail
  | .slice t x lo hi none => evK x fun v => match P.underlying t, v with
    | some .string, .v (.str s) => bndK lo 0 fun l => bndK hi s.length fun h => .test (okB l h s.length) (putK o.dst (.v (.str (cutL l h s))) .done)
    | some (.slice e), .v (.sl e' es) => .test (Nat.beq e e') <| orFail (leaves P e) fun _ => bndK lo 0 fun l => bndK hi es.length fun h => .test (okB l h es.length) (putK o.dst (.v (.sl e (cutL l h es))) .done)
    | some (.array n e), .v (.ptr id off) => bndK lo 0 fun l => bndK hi n fun h => sliceArrK P e n id off l h fun v => putK o.dst (.v v) .done
    | _, _ => .fail
  | .fieldAddr s x f => evK x fun
    | .v a => orFail (fieldOf P s f) fun fd => orFail (addOff a fd.offset) fun a => orFail (P.info? fd.type) fun i => .test (!Nat.beq i.size 0) (putK o.dst (.v a) .done)
    | _ => .fail
  | .field s x f => evK x fun
    | .agg ls => orFail (fieldOf P s f) fun fd => orFail (leaves P fd.type) fun ts => .test (Nat.ble (fd.offset + ts.length) ls.length) <|
      orFail (mkAV P fd.type (cutAt ls fd.offset ts.length)) fun v => putK o.dst v .done
    | _ => .fail
  | .indexAddr t x ix => evK x fun v => evK ix fun ix => match P.underlying t, v, ix with
    | some (.array n e), .v a, .v (.int _ i) => orFail (P.info? e) fun info => orFail (addOff a (i.toNat * info.size)) fun a => .test (Nat.ble 2 n && inB i n) (putK o.dst (.v a) .done)
    | some (.slice e), .v (.sl e' es), .v (.int _ i) => .test (Nat.beq e e') (.test (inB i es.length) (putK o.dst (.v (.ep e es i 0)) .done))
    | some (.slice e), .v (.wr id), .v (.int _ i) => .getB id fun
      | some (.row e' es) => .test (Nat.beq e e') (.test (inB i es.length) (putK o.dst (.v (.wp id i 0)) .done))
      | _ => .fail
    | _, _, _ => .fail
  | .index t x ix => evK x fun v => evK ix fun ix => match P.underlying t, v, ix with
    | some .string, .v (.str s), .v (.int _ i) => .test (inB i s.length) (putK o.dst (.v (.int .u8 (bt s i))) .done)
    | some (.array n e), .agg cs, .v (.int _ i) => orFail (leaves P e) fun ts => .test (inB i n && Nat.ble (i.toNat * ts.length + ts.length) cs.length) <|
      orFail (mkAV P e (cutAt cs (i.toNat * ts.length) ts.length)) fun v => putK o.dst v .done
    | _, _, _ => .fail
  | .extract x i => evK x fun
    | .tup vs => orFail vs[i]? fun v => putK o.dst v .done
    | _ => .fail
  | .call c => match c.callee with
    | .value f => evK f fun
      | .v (.fn f cap) => evsK c.args.toList fun vs => callK P A r j f cap vs fun v => putK o.dst v .done
      | _ => .fail
    | .builtin .len => match c.argTypes.toList, c.args.toList with
      | [t], [x] => evK x fun v => match P.underlying t, v with
        | some .string, .v (.str s) => putK o.dst (.v (.int .i64 s.length)) .done
        | some (.slice e), .v l => listK e l fun es => putK o.dst (.v (.int .i64 es.length)) .done
        | some (.array n _), _ => putK o.dst (.v (.int .i64 n)) .done
        | some (.pointer t), _ => match P.underlying t with
          | some (.array n _) => putK o.dst (.v (.int .i64 n)) .done
          | _ => .fail
        | _, _ => .fail
      | _, _ => .fail
    | .builtin .append => match c.argTypes.toList, c.args.toList with
      | [t, t'], [s, x] => evK s fun s => evK x fun x => orFail (sliceElem P t) fun e =>
        .test (match P.underlying t' with | some (.int _) => false | some _ => true | none => false) <|
        match s, x with
        | .v s, .v (.str b) => .test (isBytes P t) (appendK P nid e s (ofBytes b) fun l => putK o.dst (.v l) .done)
        | .v s, .v x => listK e x fun xs => appendK P nid e s xs fun l => putK o.dst (.v l) .done
        | _, _ => .fail
      | _, _ => .fail
    | .builtin .max => evsK c.args.toList fun
      | .v l :: vs => orFail (foldMM true l vs) fun l => putK o.dst (.v l) .done
      | _ => .fail
    | .builtin .min => evsK c.args.toList fun
      | .v l :: vs => orFail (foldMM false l vs) fun l => putK o.dst (.v l) .done
      | _ => .fail
    | _ => .fail
  | _ => .fail

/-- an operation with its guard -/
def goK (all : Array Oper) (o : Oper) (r j : Nat) : Acc :=
  match o.guard with
  | none => opK P A F o r j
  | some (g, want) => orFail ((all[g]?).bind (·.dst)) fun d => .br d want (opK P A F o r j) (putK o.dst .und .done)

/-- operations, one behind the other -/
def aops {α : Type} (call : CallF) (all : Array Oper) : List Oper → Nat → St → (St → Option α) → Option α
  | [], _, st, K => K st
  | o :: os, j, st, K => (goK P A F all o st.r j).run call st fun st => aops call all os (j + 1) st K

/-- places that are read, that are written -/
inductive Loc where
  | t (t : Nat) | b (id : Id)
def Loc.beq : Loc → Loc → Bool
  | .t x, .t y => Nat.beq x y
  | .b x, .b y => x.beq y
  | _, _ => false
structure Foot where
  rd : List Loc
  wr : List Loc
def hit (a b : List Loc) : Bool := a.any fun x => b.any (x.beq ·)
def apartF (x y : Foot) : Bool := !hit x.wr y.rd && (!hit x.wr y.wr && !hit x.rd y.wr)

/-- run, with what was touched -/
def Acc.runL {α : Type} (call : CallF) : Acc → St → Foot → (St → Foot → Option α) → Option α
  | .done, st, f, K => K st f
  | .fail, _, _, _ => none
  | .getT t k, st, f, K => (k (st.tmps t)).runL call st { f with rd := .t t :: f.rd } K
  | .getB id k, st, f, K => (k (st.boxes id)).runL call st { f with rd := .b id :: f.rd } K
  | .setT d v k, st, f, K => bif Nat.blt d st.nt then k.runL call (st.set d v) { f with wr := .t d :: f.wr } K else none
  | .setB id b k, st, f, K => bif !st.q || id.fresh st.r then k.runL call (st.setB id b) { f with wr := .b id :: f.wr } K else none
  | .test b k, st, f, K => bif b then k.runL call st f K else none
  | .fork b x y, st, f, K => bif b then x.runL call st f K else y.runL call st f K
  | .br d want x y, st, f, K => match st.tmps d with
    | .v (.bool b) => match want with
      | true => bif b then x.runL call (st.set d (.v (.bool true))) { f with rd := .t d :: f.rd } K else y.runL call (st.set d (.v (.bool false))) { f with rd := .t d :: f.rd } K
      | false => bif b then y.runL call (st.set d (.v (.bool true))) { f with rd := .t d :: f.rd } K else x.runL call (st.set d (.v (.bool false))) { f with rd := .t d :: f.rd } K
    | .und => y.runL call st { f with rd := .t d :: f.rd } K
    | _ => none
  | .call g ps bs k, st, f, K => bif !st.q || bs.isEmpty then (call g ps bs).bind fun r => (k r).runL call st f K else none

def aopsL {α : Type} (call : CallF) (all : Array Oper) : List Oper → Nat → St → List Foot → (St → List Foot → Option α) → Option α
  | [], _, st, fs, K => K st fs
  | o :: os, j, st, fs, K => (goK P A F all o st.r j).runL call st ⟨[], []⟩ fun st f => aopsL call all os (j + 1) st (f :: fs) K

/-- are unordered operations apart? bits: the masks of what comes ahead of each; feet: the last one first -/
def apartAll (bits : List Nat) : List Foot → List Nat → Bool
  | [], _ => true
  | f :: fs, m :: ms => apartOne f m fs && apartAll bits fs ms
  | _, [] => false
where
  apartOne (f : Foot) (m : Nat) : List Foot → Bool
    | [] => true
    | g :: gs => (m.testBit gs.length || apartF g f) && apartOne f m gs

/-- operations that leave boxes alone -/
def quietOp : Op → Bool
  | .move _ | .assign _ | .pick .. | .load .. | .nilCheck _ | .binOp .. | .unOp .. | .convert .. | .fieldAddr .. | .field .. | .indexAddr .. | .index .. | .extract .. | .build .. | .buildSlice .. | .box .. | .alloc .. | .makeFunc .. => true
  | .call { callee := .builtin .len, .. } | .call { callee := .builtin .max, .. } | .call { callee := .builtin .min, .. } => true
  | .call { callee := .value _, .. } => true
  | _ => false

/-- what a region with guards tells: slots, and their cells' types -/
def toldBy (o : Oper) (last : Bool) : Option (Tmp × TypeId) :=
  match o.guard, o.op, o.dst with
  | none, .assign _, some d => some (d, o.type)
  | none, _, some d => bif last then some (d, o.type) else none
  | _, _, _ => none
def tolds (P : Program) : List Oper → Option (List (Tmp × LTy))
  | [] => some []
  | o :: os => match toldBy o os.isEmpty, tolds P os with
    | some (d, t), some l => match leaves P t with
      | some [.int k] => some ((d, .int k) :: l)
      | some [.bool] => some ((d, .bool) :: l)
      | some [.str] => some ((d, .str) :: l)
      | some [.sl e] => some ((d, .sl e) :: l)
      | _ => none
    | none, some l => some l
    | _, none => none
def tells (ops : List Oper) : Option (List (Tmp × LTy)) :=
  bif ops.any (·.guard.isSome) && ops.all (fun o => quietOp o.op) then tolds P ops else none
def tellK : List (Tmp × LTy) → St → Option (List PV)
  | [], _ => some []
  | (d, t) :: l, st => match st.tmps d with
    | .v v => match pvL t v, tellK l st with
      | some p, some ps => some (p :: ps)
      | _, _ => none
    | _ => none
def untell (st : St) (ps : List PV) : List (Tmp × LTy) → Nat → Option St
  | [], _ => some st
  | (d, t) :: l, c => bif Nat.blt d st.nt then untell (st.set d (.v (decL t (ps.getD c .u)))) ps l (c + 1) else none

/-- slots that are written by operations stand dead -/
def St.kill (st : St) : List Oper → St
  | [] => st
  | o :: os => match o.dst with
    | some d => (st.kill os).set d .any
    | none => st.kill os

def aseq {α : Type} (call : CallF) (ops : Array Oper) (draw : Bool) (st : St) (K : St → Option α) : Option α :=
  match draw with
  | false => aops P A F call ops ops.toList 0 st K
  | true => bif P.follows .mixedOrders && ops.toList.zipIdx.all (fun x => x.1.after.all fun e => !Region.binds .any e || Nat.blt e.on x.2) then
      aopsL P A F call ops ops.toList 0 st [] fun st fs => bif apartAll [] fs (Region.before ops).toList.reverse then K st else none
    else none

def aregion {α : Type} (call : CallF) (ops : Array Oper) (draw : Bool) (st : St) (K : St → Option α) : Option α :=
  match tells P ops.toList with
  | some ds => (aseq P A F call ops draw { st with q := true } (tellK ds)).bind
      fun ps => match untell (st.kill ops.toList) ps ds 0 with
        | some st' => K { st' with r := st.r + 1 }
        | none => none
  | none => aseq P A F call ops draw st fun st => K { st with r := st.r + 1 }
end ops

section run
variable (P : Program) (A : Ann)

def stripL (bs : List Id) : AL → AL
  | .ptr id o => bif memI id bs then .ptr id o else .dead
  | .wr _ => .dead
  | .wp _ _ _ => .dead
  | .fn f cap => bif cap.all (memI · bs) then .fn f cap else .dead
  | l => l
def stripV (bs : List Id) : AV → AV
  | .v l => .v (stripL bs l)
  | .agg ls => .agg (ls.map (stripL bs))
  | _ => .any

/-- what was kept so far; what is left over -/
structure Kept where
  tmps : List (Nat × AV)
  boxes : List (Id × Box)
  left : Id → Option Box
def Kept.strike (k : Kept) (id : Id) : Kept := { k with left := fun x => bif x.beq id then none else k.left x }

def lookT (l : List (Nat × AV)) (t : Nat) : AV :=
  match l with
  | [] => .any
  | (k, v) :: l => bif Nat.beq t k then v else lookT l t
def lookB (l : List (Id × Box)) (id : Id) : Option Box :=
  match l with
  | [] => none
  | (k, v) :: l => bif id.beq k then some v else lookB l id

def keepSlot (bs : List Id) (st : St) (k : Kept) (t : Nat) : SK → Option Kept
  | .any => some { k with tmps := (t, stripV bs (st.tmps t)) :: k.tmps }
  | .pl e => match st.tmps t with
    | .v .nils => some { k with tmps := (t, .v (.sl e [])) :: k.tmps }
    | .v (.sl e' es) => bif Nat.beq e e' then some { k with tmps := (t, .v (.sl e es)) :: k.tmps } else none
    | .v (.wr id) => match k.left id with
      | some (.row e' es) => bif Nat.beq e e' then some { k.strike id with tmps := (t, .v (.sl e es)) :: k.tmps } else none
      | _ => none
    | _ => none
  | .row e => match st.tmps t with
    | .v .nils => bif (leaves P e).isSome then some { k with tmps := (t, .v (.wr (.w t))) :: k.tmps, boxes := (.w t, .row e []) :: k.boxes } else none
    | .v (.wr id) => match k.left id with
      | some (.row e' es) => bif Nat.beq e e' then some { k.strike id with tmps := (t, .v (.wr (.w t))) :: k.tmps, boxes := (.w t, .row e es) :: k.boxes } else none
      | _ => none
    | _ => none
  | .al t' => match st.tmps t, st.tmps t' with
    | .v (.wr id), .v (.wr id') => bif id.beq id' then some { k with tmps := (t, lookT k.tmps t') :: k.tmps } else none
    | _, _ => none
def keepSlots (bs : List Id) (st : St) (k : Kept) : List (Nat × SK) → Option Kept
  | [] => some k
  | (t, s) :: l => match keepSlot P bs st k t s with
    | some k' => keepSlots bs st k' l
    | none => none

/-- the cells of a kept box -/
def keepCells (own : Nat → TypeId → Bool) (id : Id) (k : Kept) : List LTy → List AL → Nat → Option (List AL × Kept)
  | .sl e :: ts, l :: ls, c =>
    let go (l' : AL) (k' : Kept) : Option (List AL × Kept) := match keepCells own id k' ts ls (c + 1) with
      | some (ls', k'') => some (l' :: ls', k'')
      | none => none
    match own c e, l with
    | true, .nils => bif (leaves P e).isSome then go (.wr (.c id c)) { k with boxes := (.c id c, .row e []) :: k.boxes } else none
    | true, .wr id' => match k.left id' with
      | some (.row e' es) => bif Nat.beq e e' then go (.wr (.c id c)) { k.strike id' with boxes := (.c id c, .row e es) :: k.boxes } else none
      | _ => none
    | false, .nils => go (.sl e []) k
    | false, .sl e' es => bif Nat.beq e e' then go (.sl e es) k else none
    | false, .wr id' => match k.left id' with
      | some (.row e' es) => bif Nat.beq e e' then go (.sl e es) (k.strike id') else none
      | _ => none
    | _, _ => none
  | _ :: ts, l :: ls, c => match keepCells own id k ts ls (c + 1) with
    | some (ls', k'') => some (stripL [] l :: ls', k'')
    | none => none
  | [], [], _ => some ([], k)
  | _, _, _ => none

def okId (r : Nat) : Id → Bool
  | .p _ => true
  | .n r' _ _ => Nat.blt r' r
  | _ => false

def ownI (l : List (Id × Nat)) (id : Id) (c : Nat) : Bool :=
  match l with
  | [] => false
  | (x, d) :: l => (id.beq x && Nat.beq c d) || ownI l id c
def keepBoxes (ow : Id → TypeId → Nat → TypeId → Bool) (r : Nat) (bs : List Id) (k : Kept) : List Id → Option Kept
  | [] => some k
  | id :: l => bif okId r id then
      match k.left id with
      | some (.cells t cs) => match leaves P t with
        | some ts => match keepCells P (ow id t) id (k.strike id) ts cs 0 with
          | some (cs', k') => keepBoxes ow r bs { k' with boxes := (id, .cells t cs') :: k'.boxes } l
          | none => none
        | none => none
      | _ => none
    else none

/-- a state out of lists -/
def mkSt (tmps : List (Nat × AV)) (boxes : List (Id × Box)) (r nt : Nat) : St :=
  { tmps := lookT tmps, boxes := lookB boxes, r := r, nt := nt, q := false }

def clean (kp : Keep) (st : St) : Option St :=
  match keepSlots P kp.boxes st { tmps := [], boxes := [], left := st.boxes } kp.slots with
  | some k => match keepBoxes P (fun id t c e => A.ownT t e || ownI kp.own id c) kp.r kp.boxes k kp.boxes with
    | some k => bif nodupI (k.boxes.map (·.1)) then some (mkSt k.tmps.reverse k.boxes.reverse kp.r st.nt) else none
    | none => none
  | none => none

def loopKey : List Item → Nat
  | .inBlock id :: _ => id
  | _ :: k => loopKey k
  | [] => 0

/-- the results of a function -/
def resVs : List ResultVar → (List AV → Acc) → Acc
  | [], k => k []
  | .tmp t :: l, k => .getT t fun v => resVs l fun vs => k (v :: vs)
  | .cell a ty :: l, k => .getT a fun
    | .v a => loadK P ty a fun ls => orFail (mkAV P ty ls) fun v => resVs l fun vs => k (v :: vs)
    | _ => .fail
def idsP (np : Nat) : List Id := (List.range np).map .p
def eqTys : List TypeId → List TypeId → Bool
  | [], [] => true
  | x :: xs, y :: ys => Nat.beq x y && eqTys xs ys
  | _, _ => false
def finish (F : FuncId) (pts : List TypeId) (fn : Func) (st : St) : Option Res :=
  finA (resVs P fn.results.toList fun vs => packVsK P false (A.ownR F) fn.resultTypes.toList vs fun ps ids => bxsK P A (idsP pts.length ++ ids) fun bs =>
    .test (eqTys (bs.map (·.1)) (pts ++ newTs P fn.resultTypes.toList)) <| .call 0 ps bs fun _ => .done) st
where
  finA : Acc → St → Option Res
  | .getT t k, st => finA (k (st.tmps t)) st
  | .getB id k, st => finA (k (st.boxes id)) st
  | .setB id b k, st => finA k (st.setB id b)
  | .test b k, st => bif b then finA k st else none
  | .call _ ps bs _, _ => some (ps, bs)
  | _, _ => none

variable (F : FuncId) (fn : Func) (pts : List TypeId) (call : CallF) (R : List Item → St → Option Res)

/-- on from a place in the text to its next loop, cut, or end -/
def adv : Nat → Bool → List Item → St → Option Res
  | 0, _, _, _ => none
  | b + 1, fst, todo, st =>
    match todo with
    | [] => finish P A F pts fn st
    | .code .ret :: _ => finish P A F pts fn st
    | .code .skip :: k | .code (.label _) :: k | .inBlock _ :: k | .inScope _ :: k => adv b false k st
    | .code (.seq x y) :: k => adv b false (.code x :: .code y :: k) st
    | .code (.cond c x y) :: k => match c with
      | .tmp d => match st.tmps d with
        | .v (.bool t) => bif t then adv b false (.code x :: k) (st.set d (.v (.bool true))) else adv b false (.code y :: k) (st.set d (.v (.bool false)))
        | _ => none
      | .const (.bool t) => bif t then adv b false (.code x :: k) st else adv b false (.code y :: k) st
      | _ => none
    | .code (.block id c) :: k => adv b false (.code c :: .inBlock id :: k) st
    | .code (.scope c) :: k => adv b false (.code c :: .inScope c :: k) st
    | .code (.loop c) :: k => adv b false (.inLoop c :: k) st
    | .inLoop c :: k => bif fst then adv b false (.code c :: .inLoop c :: k) st else
      match A.loop F (loopKey k) with
      | some kp => match clean P A kp st with
        | some st => R (.inLoop c :: k) st
        | none => none
      | none => adv b false (.code c :: .inLoop c :: k) st
    | .code (.exit id) :: k => match exitTo id k with
      | some k' => adv b false k' st
      | none => none
    | .code (.region id ops draw) :: k =>
      match (bif fst then none else A.cut F id) with
      | some kp => match clean P A kp st with
        | some st => R (.code (.region id ops draw) :: k) st
        | none => none
      | none => aregion P A F call ops draw st fun st => adv b false k st
    | _ => none

/-- boxes laid over others -/
def ov (B : Id → Option Box) : List (Id × Box) → Id → Option Box
  | [] => B
  | (id, b) :: l => ov (fun x => bif x.beq id then some b else B x) l
def numb : Nat → List AV → List (Nat × AV)
  | _, [] => []
  | i, v :: vs => (i, v) :: numb (i + 1) vs
/-- the beginning of a call -/
def enter (args : List PV) (bs : List BX) : Option St :=
  match handV P (A.ownA F) fn.params.toList args 0 0, handB P A bs 0 with
  | some (l, ms, n), some bl =>
    bif Nat.beq (n + fn.nfree) bs.length && Nat.ble (fn.params.size + fn.nfree) fn.ntmps then
      some { tmps := lookT (numb 0 (l ++ (List.range fn.nfree).map fun x => AV.v (.ptr (.p (n + x)) 0))), boxes := ov (fun _ => none) (ms ++ bl), r := 1, nt := fn.ntmps, q := false } else none
  | _, _ => none
end run

/-- a function of the library that has no body -/
def extR (P : Program) (A : Ann) (f : FuncId) (fn : Func) (args : List PV) (bs : List BX) : Option Res :=
  match fn.body, bs, handV P (A.ownA f) fn.params.toList args 0 0, fn.resultTypes.toList with
  | none, [], some ([.v (.int .u64 x), .v (.int .u64 y), .v (.int .u64 b)], [], 0), [t1, t2] =>
    match leaves P t1, leaves P t2 with
    | some [.int .u64], some [.int .u64] =>
      bif fn.name == "math/bits.Sub64" && (fn.origin == "" && (Nat.beq fn.nfree 0 && (!isAggB P t1 && (!isAggB P t2 && Nat.ble b.toNat 1)))) then
        some ([.i (Int.ofNat ((x.toNat + 2 ^ 64 - y.toNat - b.toNat) % 2 ^ 64)), .i (Int.ofNat (if x.toNat < y.toNat + b.toNat then 1 else 0))], [])
      else none
    | _, _ => none
  | _, _, _, _ => none

/-- calls, and runs from a loop or a cut on, by depth -/
def lvl (P : Program) (A : Ann) : Nat → CallF × (FuncId → List TypeId → List Item → St → Option Res)
  | 0 => (fun _ _ _ => none, fun _ _ _ _ => none)
  | n + 1 =>
    (fun f args bs => match A.prim f args bs with
     | some r => some r
     | none => match P.funcs[f]? with
      | some fn => match fn.body, enter P A f fn args bs with
        | some c, some st => adv P A f fn (bs.map (·.1)) (lvl P A n).1 ((lvl P A n).2 f (bs.map (·.1))) 5000 true [.code c] st
        | none, _ => extR P A f fn args bs
        | _, _ => none
      | none => none,
     fun f pts todo st => match P.funcs[f]? with
      | some fn => adv P A f fn pts (lvl P A n).1 ((lvl P A n).2 f pts) 5000 true todo st
      | none => none)
noncomputable def callAt (P : Program) (A : Ann) (n : Nat) : CallF := (lvl P A n).1
noncomputable def runAt (P : Program) (A : Ann) (n : Nat) : FuncId → List TypeId → List Item → St → Option Res := (lvl P A n).2

/-- the place of a loop, of a cut -/
def findL (key : Nat) : Code → List Item → Option (List Item)
  | .seq a b, k => match findL key a (.code b :: k) with
    | some r => some r
    | none => findL key b k
  | .cond _ x y, k => match findL key x k with
    | some r => some r
    | none => findL key y k
  | .block id c, k => findL key c (.inBlock id :: k)
  | .scope c, k => findL key c (.inScope c :: k)
  | .loop c, k => bif Nat.beq (loopKey k) key then some (.inLoop c :: k) else findL key c (.inLoop c :: k)
  | _, _ => none
def findC (key : Nat) : Code → List Item → Option (List Item)
  | .seq a b, k => match findC key a (.code b :: k) with
    | some r => some r
    | none => findC key b k
  | .cond _ x y, k => match findC key x k with
    | some r => some r
    | none => findC key y k
  | .block id c, k => findC key c (.inBlock id :: k)
  | .scope c, k => findC key c (.inScope c :: k)
  | .loop c, k => findC key c (.inLoop c :: k)
  | .region id ops d, k => bif Nat.beq id key then some (.code (.region id ops d) :: k) else none
  | _, _ => none
def atLoop (fn : Func) (key : Nat) : List Item := match fn.body with
  | some c => (findL key c []).getD []
  | none => []
def atCut (fn : Func) (key : Nat) : List Item := match fn.body with
  | some c => (findC key c []).getD []
  | none => []
end Go.AI
