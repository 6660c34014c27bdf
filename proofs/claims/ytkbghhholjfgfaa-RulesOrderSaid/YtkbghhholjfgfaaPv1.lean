import Derived.Orders
import Derived.Below
import Derived.KernelRfl
import Derived.Laws.AppendOwn
import Derived.Laws.Build
namespace Pv
open Go

/-- Plain values: what a slot of a frame holds, read as data. -/
inductive PV where
  | any
  | bool (b : Bool)
  | ub
  | int (k : IntKind) (n : Int)
  | str (s : ByteArray)
  | agg (cs : List PV)
  | tup (vs : List PV)
  | ptr (b g s i o : Nat)
  | addr (a : Addr)
  | nilp
  | ept (s : Nat) (xs : List PV) (i o : Nat)
  | sl (s : Nat) (xs : List PV)
  | bsl (b g s i n : Nat)
  | nils
  | clo (f : FuncId) (first cap : List PV)
  | nilf
  | ifc (t : TypeId) (v : PV)
  | nili
  | map (b g : Nat)
  | nilm
  deriving Inhabited

def PV.cells : PV → List PV
  | .agg cs => cs
  | x => [x]

/-- The boxes' numbers that a plain value names are among these. -/
def PV.within (S : Nat → Bool) : PV → Bool
  | .ptr b _ _ _ _ => S b
  | .bsl b _ _ _ _ => S b
  | .map b _ => S b
  | .agg cs => go cs
  | .tup cs => go cs
  | .clo _ xs ys => go xs && go ys
  | .ifc _ x => x.within S
  | _ => true
where
  go : List PV → Bool
    | [] => true
    | x :: t => x.within S && go t

abbrev PV.closed (p : PV) : Bool := p.within fun _ => false

/-- What a box holds: elements of 's' cells each, or a map's entries. -/
inductive Body where
  | dead
  | arr (s : Nat) (xs : List PV)
  | map (es : List (PV × PV))

structure Box where
  gen : Nat
  own : Bool
  body : Body

abbrev Heap := List (Nat × Box)

def find : Heap → Nat → Option Box
  | [], _ => none
  | (k, x) :: t, b => if k = b then some x else find t b

def put : Heap → Nat → Box → Heap
  | [], b, x => [(b, x)]
  | (k, y) :: t, b, x => if k = b then (b, x) :: t else (k, y) :: put t b x

/-- What the executor asks of a type: is it an aggregate, its cells, its bytes, its zero value. -/
structure TI where
  agg : Bool
  size : Nat
  bytes : Nat
  zero : PV

def ofScalar : Value → PV
  | .bool b => .bool b
  | .int k n => .int k n
  | .string s => .str s
  | .pointer none => .nilp
  | .slice none 0 0 => .nils
  | .map none => .nilm
  | .nilFunc => .nilf
  | .nilIface => .nili
  | _ => .any

def ofConst : Value → PV
  | .agg cs => .agg (cs.toList.map ofScalar)
  | .tuple _ => .any
  | v => ofScalar v

def isAggD : TypeDesc → Bool
  | .struct _ | .array _ _ => true
  | _ => false

def tyI (P : Program) (t : TypeId) : Option TI :=
  match P.info? t, P.underlying t with
  | some i, some d => some { agg := isAggD d, size := i.size, bytes := i.bytes, zero := (i.zero.map ofConst).getD .any }
  | _, _ => none

/-- A field of a struct type: its offset and its type (of a size that is not 0). -/
def fldI (P : Program) (t : TypeId) (f : Nat) : Option (Nat × TypeId) :=
  match P.underlying t with
  | some (.struct fs) => (fs[f]?).bind fun x => if P.cellsOf x.type = 0 then none else some (x.offset, x.type)
  | _ => none

inductive EK where
  | slice | array (n : Nat)
  deriving DecidableEq

def elemI (P : Program) (t : TypeId) : Option (EK × TypeId) :=
  match P.underlying t with
  | some (.slice e) => if (P.info? e).isSome then some (.slice, e) else none
  | some (.array n e) => if (P.info? e).isSome then some (.array n, e) else none
  | _ => none

def ev (T : List PV) : Operand → PV
  | .tmp t => T.getD t (.tup [])
  | .const v => ofConst v
  | .global g => .addr ⟨g, 0, none⟩
  | .func f => .clo f [] []

structure Res where
  v : PV
  rd : List Nat := []
  wr : List (Nat × Box) := []

def loadE (agg : Bool) (n : Nat) (x : PV) (o : Nat) : Option PV :=
  if agg then (if o + n ≤ x.cells.length then some (.agg ((x.cells.drop o).take n)) else none) else x.cells[o]?

def splice (cs : List PV) (o : Nat) (vs : List PV) : List PV := cs.take o ++ vs ++ cs.drop (o + vs.length)

def PV.setc (x : PV) (o : Nat) (vs : List PV) : PV :=
  match x with
  | .agg cs => .agg (splice cs o vs)
  | _ => vs.headD .any

def binop (op : BinOp) (x y : PV) : Option PV :=
  match op, x, y with
  | .add, .int k a, .int k' b => if k = k' then some (.int k (k.wrap (a + b))) else none
  | .sub, .int k a, .int k' b => if k = k' then some (.int k (k.wrap (a - b))) else none
  | .mul, .int k a, .int k' b => if k = k' then some (.int k (k.wrap (a * b))) else none
  | .lss, .int k a, .int k' b => if k = k' then some (.bool (decide (a < b))) else none
  | .leq, .int k a, .int k' b => if k = k' then some (.bool (decide (a ≤ b))) else none
  | .gtr, .int k a, .int k' b => if k = k' then some (.bool (decide (a > b))) else none
  | .geq, .int k a, .int k' b => if k = k' then some (.bool (decide (a ≥ b))) else none
  | .eql, .int k a, .int k' b => if k = k' then some (.bool (a == b)) else none
  | .neq, .int k a, .int k' b => if k = k' then some (.bool (a != b)) else none
  | .shr, .int k a, .int _ b => if 0 ≤ b ∧ b.toNat ≤ k.bits then some (.int k (a.fdiv (2 ^ b.toNat))) else none
  | .add, .str a, .str b => if a.size + b.size ≤ maxLen then some (.str (a ++ b)) else none
  | .eql, .str a, .str b => some (.bool (a.toList == b.toList))
  | .neq, .str a, .str b => some (.bool (!(a.toList == b.toList)))
  | .lss, .str a, .str b => some (.bool (Op.bytesLess a.toList b.toList))
  | .leq, .str a, .str b => some (.bool (Op.bytesLess a.toList b.toList || a.toList == b.toList))
  | .gtr, .str a, .str b => some (.bool (!(Op.bytesLess a.toList b.toList || a.toList == b.toList)))
  | .geq, .str a, .str b => some (.bool (!Op.bytesLess a.toList b.toList))
  | _, _, _ => none

/-- The leaves of a type whose values are compared cell by cell. -/
inductive LK where
  | bool | int | str
  deriving DecidableEq

def plainFs (f : TypeId → Option (List LK)) (P : Program) : List Field → Nat → Option (List LK)
  | [], _ => some []
  | x :: fs, off => match f x.type with
    | some ls => if x.name ≠ "_" ∧ x.offset = off ∧ P.cellsOf x.type = ls.length then (plainFs f P fs (off + ls.length)).map (ls ++ ·) else none
    | none => none

def plainT (P : Program) : Nat → TypeId → Option (List LK)
  | 0, _ => none
  | d + 1, t => match P.underlying t with
    | some .bool => some [.bool]
    | some (.int _) => some [.int]
    | some .string => some [.str]
    | some (.struct fs) => if P.stoodInHeld t = true ∨ P.eqGuardType P.depth t = true then none else plainFs (plainT P d) P fs.toList 0
    | some (.array n e) => if P.eqGuardType P.depth t = true then none else match plainT P d e with
      | some ls => if P.cellsOf e = ls.length then some (List.replicate n ls).flatten else none
      | none => none
    | _ => none

def eqL : List LK → List PV → List PV → Option Bool
  | [], [], [] => some true
  | .int :: ls, .int k a :: xs, .int k' b :: ys => if k = k' then (eqL ls xs ys).map ((a == b) && ·) else none
  | .bool :: ls, .bool a :: xs, .bool b :: ys => (eqL ls xs ys).map ((a == b) && ·)
  | .str :: ls, .str a :: xs, .str b :: ys => (eqL ls xs ys).map ((a.toList == b.toList) && ·)
  | _, _, _ => none

def sEq (P : Program) (t : TypeId) (x y : PV) : Option Bool :=
  match x, y with
  | .bool a, .bool b => match P.underlying t with
    | some .bool => some (a == b)
    | _ => none
  | .agg xs, .agg ys => match tyI P t, plainT P 100 t with
    | some ti, some ls => if ti.agg = true then eqL ls xs ys else none
    | _, _ => none
  | _, _ => none

def sBin (P : Program) (op : BinOp) (t : TypeId) (x y : PV) : Option PV :=
  match op, x, y with
  | .eql, .bool _, .bool _ | .eql, .agg _, .agg _ => (sEq P t x y).map .bool
  | .neq, .bool _, .bool _ | .neq, .agg _, .agg _ => (sEq P t x y).map fun b => .bool (!b)
  | _, _, _ => binop op x y

/-- A slice asked whether it is nil. 'ub': one of the two. -/
def sNil (H : Nat → Option Box) (P : Program) (t : TypeId) (x y : PV) (neg : Bool) : Option Res :=
  match P.underlying t, y with
  | some (.slice _), .nils => match x with
    | .nils => some { v := .bool (!neg) }
    | .sl _ [] => some { v := .ub }
    | .sl _ (_ :: _) => some { v := .bool neg }
    | .bsl b g _ _ n => if curB H b g then some { v := if 0 < n then .bool neg else .ub, rd := [b] } else none
    | _ => none
  | _, _ => none
where
  curB (H : Nat → Option Box) (b g : Nat) : Bool := match H b with | some x => x.gen == g | none => false

def sBinH (P : Program) (H : Nat → Option Box) (op : BinOp) (t : TypeId) (x y : PV) : Option Res :=
  match op, y with
  | .eql, .nils => sNil H P t x y false
  | .neq, .nils => sNil H P t x y true
  | _, _ => (sBin P op t x y).map fun v => { v }

/-- The box is at hand, and the name is not an old one. -/
def cur (H : Nat → Option Box) (b g : Nat) : Bool :=
  match H b with
  | some x => x.gen == g
  | none => false

def boxArr (H : Nat → Option Box) (b g s : Nat) : Option (Box × List PV) :=
  match H b with
  | some x => match x.body with
    | .arr s' xs => if x.gen = g ∧ s' = s then some (x, xs) else none
    | _ => none
  | none => none

def genOf (H : Nat → Option Box) (b : Nat) : Nat :=
  match H b with
  | some y => y.gen + 1
  | none => 0

/-- A value that one cell of memory may hold. -/
def PV.cellB : PV → Bool
  | .any | .agg _ | .tup _ => false
  | _ => true

def okElem (x : PV) (n : Nat) : Bool := x.cells.length == n && x.cells.all PV.cellB

def sFieldAddr (P : Program) (H : Nat → Option Box) (t : TypeId) (x : PV) (f : Nat) : Option Res :=
  match fldI P t f, x with
  | some (off, _), .ptr b g s i p => if cur H b g then some { v := .ptr b g s i (p + off), rd := [b] } else none
  | some (off, _), .ept s xs i p => some { v := .ept s xs i (p + off) }
  | _, _ => none

def sField (P : Program) (t : TypeId) (x : PV) (f : Nat) : Option Res :=
  match fldI P t f, x with
  | some (off, ft), .agg cs => match tyI P ft with
    | some ti => (loadE ti.agg ti.size (.agg cs) off).map fun v => { v }
    | none => none
  | _, _ => none

def sLoad (P : Program) (H : Nat → Option Box) (t : TypeId) (x : PV) : Option Res :=
  match tyI P t, x with
  | some ti, .ptr b g s i p => match boxArr H b g s with
    | some (_, xs) => match xs[i]? with
      | some x => (loadE ti.agg ti.size x p).map fun v => { v, rd := [b] }
      | none => none
    | none => none
  | some ti, .ept _ xs i p => match xs[i]? with
    | some x => (loadE ti.agg ti.size x p).map fun v => { v }
    | none => none
  | _, _ => none

def sStore (P : Program) (H : Nat → Option Box) (t : TypeId) (x v : PV) : Option Res :=
  match tyI P t, x with
  | some ti, .ptr b g s i p => match boxArr H b g s with
    | some (y, xs) => match xs[i]? with
      | some e => if y.own = true ∧ okElem v ti.size = true ∧ p + ti.size ≤ e.cells.length then
          some { v := .tup [], rd := [b], wr := [(b, { y with body := .arr s (xs.set i (e.setc p v.cells)) })] } else none
      | none => none
    | none => none
  | _, _ => none

def newBox (H : Nat → Option Box) (b s : Nat) (xs : List PV) : List (Nat × Box) := [(b, ⟨genOf H b, true, .arr s xs⟩)]

def sBox (P : Program) (H : Nat → Option Box) (d : Nat) (t : TypeId) (x : PV) : Option Res :=
  match tyI P t with
  | some ti => if okElem x ti.size = true then some { v := .ptr d (genOf H d) ti.size 0 0, rd := [d], wr := newBox H d ti.size [x] } else none
  | none => none

def sAlloc (P : Program) (H : Nat → Option Box) (d : Nat) (t : TypeId) : Option Res :=
  match tyI P t with
  | some ti => if okElem ti.zero ti.size = true then some { v := .ptr d (genOf H d) ti.size 0 0, rd := [d], wr := newBox H d ti.size [ti.zero] } else none
  | none => none

def sIndexAddr (P : Program) (H : Nat → Option Box) (t : TypeId) (x ix : PV) : Option Res :=
  match elemI P t, x, ix with
  | some (.slice, e), .sl s xs, .int _ i => if P.cellsOf e = s ∧ 0 ≤ i ∧ i < xs.length then some { v := .ept s xs i.toNat 0 } else none
  | some (.slice, e), .bsl b g s st n, .int _ i => if cur H b g = true ∧ P.cellsOf e = s ∧ 0 ≤ i ∧ i < n then some { v := .ptr b g s (st + i.toNat) 0, rd := [b] } else none
  | some (.array m, e), .ptr b g s j p, .int _ i => if cur H b g = true ∧ 0 ≤ i ∧ i < m then some { v := .ptr b g s j (p + i.toNat * P.cellsOf e), rd := [b] } else none
  | _, _, _ => none

def sLen (P : Program) (H : Nat → Option Box) (t : TypeId) (x : PV) : Option Res :=
  match elemI P t, x with
  | some (.slice, _), .sl _ xs => some { v := .int .i64 xs.length }
  | some (.slice, _), .bsl b g _ _ n => if cur H b g then some { v := .int .i64 n, rd := [b] } else none
  | some (.slice, _), .nils => some { v := .int .i64 0 }
  | none, .str s => if isStr P t then some { v := .int .i64 s.size } else none
  | _, _ => none
where
  isStr (P : Program) (t : TypeId) : Bool := match P.underlying t with | some .string => true | _ => false

/-- Parts laid over zero values, element by element. -/
def layParts (T : List PV) (n : Nat) : List (Nat × Operand) → List PV → Option (List PV)
  | [], xs => some xs
  | (i, x) :: rest, xs => if okElem (ev T x) n = true ∧ i < xs.length then layParts T n rest (xs.set i (ev T x)) else none

def sBuildSlice (P : Program) (H : Nat → Option Box) (T : List PV) (d : Nat) (t : TypeId) (len : Nat) (parts : List (Nat × Operand)) : Option Res :=
  match elemI P t with
  | some (.slice, e) => match tyI P e with
    | some ti => if okElem ti.zero ti.size = true ∧ 0 < ti.size ∧ len * ti.size ≤ 2 ^ 24 then
        match layParts T ti.size parts (List.replicate len ti.zero) with
        | some xs => some { v := .bsl d (genOf H d) ti.size 0 len, rd := [d], wr := newBox H d ti.size xs }
        | none => none
      else none
    | none => none
  | _ => none

def layFields (T : List PV) (P : Program) (t : TypeId) : List (Nat × Operand) → List PV → Option (List PV)
  | [], cs => some cs
  | (i, x) :: rest, cs => match fldI P t i with
    | some (off, ft) => if okElem (ev T x) (P.cellsOf ft) = true ∧ off + P.cellsOf ft ≤ cs.length then layFields T P t rest (splice cs off (ev T x).cells) else none
    | none => none

def sBuild (P : Program) (T : List PV) (t : TypeId) (parts : List (Nat × Operand)) : Option Res :=
  match tyI P t with
  | some ti => match ti.zero with
    | .agg cs => if cs.length = ti.size ∧ isStruct P t = true then (layFields T P t parts cs).map fun cs => { v := .agg cs } else none
    | _ => none
  | none => none
where
  isStruct (P : Program) (t : TypeId) : Bool := match P.underlying t with | some (.struct fs) => fs.toList.all fun f => (P.info? f.type).isSome | _ => false

def sConvert (P : Program) (src dst : TypeId) (x : PV) : Option Res :=
  match P.underlying src, P.underlying dst, x with
  | some (.int _), some (.int k), .int _ n => some { v := .int k (k.wrap n) }
  | some .string, some .string, .str s => some { v := .str s }
  | _, _, _ => none

def boundOf (x : Option PV) (dflt : Nat) : Option Nat :=
  match x with
  | none => some dflt
  | some (.int _ i) => if 0 ≤ i then some i.toNat else none
  | _ => none

def sSlice (P : Program) (H : Nat → Option Box) (t : TypeId) (x : PV) (lo hi mx : Option PV) : Option Res :=
  match elemI P t, x, mx with
  | some (.slice, e), .sl s xs, none => match boundOf lo 0, boundOf hi xs.length with
    | some l, some h => if P.cellsOf e = s ∧ l ≤ h ∧ h ≤ xs.length then some { v := .sl s ((xs.drop l).take (h - l)) } else none
    | _, _ => none
  | some (.slice, e), .bsl b g s st n, none => match boundOf lo 0, boundOf hi n with
    | some l, some h => if cur H b g = true ∧ P.cellsOf e = s ∧ l ≤ h ∧ h ≤ n then some { v := .bsl b g s (st + l) (h - l), rd := [b] } else none
    | _, _ => none
  | some (.array m, e), .ptr b g s i p, none => match boxArr H b g s with
    | some (y, xs) => match xs[i]? with
      | some x => match boundOf lo 0, boundOf hi m with
        | some l, some h => if P.cellsOf e = 1 ∧ l ≤ h ∧ h ≤ m ∧ p + m ≤ x.cells.length ∧ (((x.cells.drop p).take m).all fun q => q.cellB && q.closed) = true then
            some { v := .sl 1 ((((x.cells.drop p).take m).drop l).take (h - l)), rd := [b], wr := [(b, { y with own := false })] } else none
        | _, _ => none
      | none => none
    | none => none
  | _, _, _ => none

def sAppend (P : Program) (H : Nat → Option Box) (d : Nat) (t t' : TypeId) (x y : PV) : Option Res :=
  match elemI P t, elemI P t' with
  | some (.slice, e), some (.slice, e') => match tyI P e, (if e' = e then srcOf (P.cellsOf e) y else none) with
    | some ti, some (ys, ids) => if okElem ti.zero ti.size = true ∧ 0 < ti.size then
        match x with
        | .nils => if ys.length * ti.bytes ≤ 140737488355328 ∧ ys.length ≤ maxLen then
            some { v := .bsl d (genOf H d) ti.size 0 ys.length, rd := d :: ids, wr := newBox H d ti.size ys } else none
        | .bsl b g s st n => match boxArr H b g s with
          | some (z, xs) => if z.own = true ∧ s = ti.size ∧ st = 0 ∧ n ≤ xs.length ∧ (n + ys.length) * ti.bytes ≤ 140737488355328 ∧ n + ys.length ≤ maxLen then
              some { v := .bsl b (g + 1) s 0 (n + ys.length), rd := b :: ids, wr := [(b, ⟨g + 1, true, .arr s (xs.take n ++ ys)⟩)] } else none
          | none => none
        | _ => none
      else none
    | _, _ => none
  | _, _ => none
where
  srcOf (k : Nat) (y : PV) : Option (List PV × List Nat) :=
    match y with
    | .sl s ys => if s = k then some (ys, []) else none
    | .nils => some ([], [])
    | .bsl b g s st n => match boxArr H b g s with
      | some (_, xs) => if s = k ∧ st + n ≤ xs.length then some ((xs.drop st).take n, [b]) else none
      | none => none
    | _ => none

def sClear (P : Program) (H : Nat → Option Box) (t : TypeId) (x : PV) : Option Res :=
  match elemI P t with
  | some (.slice, e) => match tyI P e, x with
    | some ti, .bsl b g s st n => match boxArr H b g s with
      | some (y, xs) => if y.own = true ∧ okElem ti.zero ti.size = true ∧ 0 < ti.size ∧ s = ti.size ∧ st + n ≤ xs.length then
          some { v := .tup [], rd := [b], wr := [(b, { y with body := .arr s (xs.take st ++ List.replicate n ti.zero ++ xs.drop (st + n)) })] } else none
      | none => none
    | some _, .nils => some { v := .tup [] }
    | _, _ => none
  | _ => none

def sIndex (P : Program) (t : TypeId) (x ix : PV) : Option Res :=
  match P.underlying t, x, ix with
  | some .string, .str s, .int _ i => if 0 ≤ i then match s[i.toNat]? with
      | some b => some { v := .int .u8 b.toNat }
      | none => none
    else none
  | _, _, _ => none

/-- One operation, but for a call: what it gives, which boxes it looks at, which boxes it lays anew. -/
def fstep (P : Program) (n0 : Nat) (H : Nat → Option Box) (T : List PV) (o : Oper) : Option Res :=
  match o.op with
  | .move x | .assign x => some { v := ev T x }
  | .pick c a b => match ev T c with
    | .bool t => some { v := bif t then ev T a else ev T b }
    | _ => none
  | .fieldAddr t x f => sFieldAddr P H t (ev T x) f
  | .field t x f => sField P t (ev T x) f
  | .load t x => sLoad P H t (ev T x)
  | .store t x v => sStore P H t (ev T x) (ev T v)
  | .box t x => match o.dst with
    | some d => sBox P H (n0 + d) t (ev T x)
    | none => none
  | .alloc t => match o.dst with
    | some d => sAlloc P H (n0 + d) t
    | none => none
  | .indexAddr t x ix => sIndexAddr P H t (ev T x) (ev T ix)
  | .index t x ix => sIndex P t (ev T x) (ev T ix)
  | .binOp op t x y _ => sBinH P H op t (ev T x) (ev T y)
  | .unOp .not _ x => match ev T x with
    | .bool b => some { v := .bool (!b) }
    | _ => none
  | .convert src dst x => sConvert P src dst (ev T x)
  | .makeFunc (.func f) first cap => some { v := .clo f (first.toList.map (ev T)) (cap.toList.map (ev T)) }
  | .makeInterface t x => if P.concrete t = true then some { v := .ifc t (ev T x) } else none
  | .extract x i => match ev T x with
    | .tup vs => (vs[i]?).map fun v => { v }
    | _ => none
  | .build t parts => sBuild P T t parts.toList
  | .buildSlice t len parts => match o.dst with
    | some d => sBuildSlice P H T (n0 + d) t len parts.toList
    | none => none
  | .slice t x lo hi mx => sSlice P H t (ev T x) (lo.map (ev T)) (hi.map (ev T)) (mx.map (ev T))
  | .call { callee := .builtin .len, args, argTypes } => match args.toList, argTypes.toList with
    | [x], [t] => sLen P H t (ev T x)
    | _, _ => none
  | .call { callee := .builtin .append, args, argTypes } => match args.toList, argTypes.toList, o.dst with
    | [x, y], [t, t'], some d => sAppend P H (n0 + d) t t' (ev T x) (ev T y)
    | _, _, _ => none
  | .call { callee := .builtin .clear, args, argTypes } => match args.toList, argTypes.toList with
    | [x], [t] => sClear P H t (ev T x)
    | _, _ => none
  | _ => none

structure PS where
  T : List PV
  H : Heap

def puts (H : Heap) : List (Nat × Box) → Heap
  | [] => H
  | (k, x) :: t => puts (put H k x) t

def setD (T : List PV) (dst : Option Tmp) (v : PV) : List PV :=
  match dst with
  | some d => T.set d v
  | none => T

def Res.ap (r : Res) (st : PS) (dst : Option Tmp) : PS := ⟨setD st.T dst r.v, puts st.H r.wr⟩

def callOf (T : List PV) (o : Oper) : Option (FuncId × List PV) :=
  match o.op with
  | .call { callee := .value f, args, .. } => match ev T f with
    | .clo f first cap => some (f, first ++ args.toList.map (ev T) ++ cap)
    | _ => none
  | _ => none

end Pv
