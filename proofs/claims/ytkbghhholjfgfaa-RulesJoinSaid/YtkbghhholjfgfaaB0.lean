import Derived.Orders
import Derived.Below
import Derived.KernelRfl
import Derived.Laws.AppendOwn
import Derived.Laws.Build
import Derived.Laws.CopyRow
import Derived.Great.FillDense
import Derived.Laws.StructEq
import Derived.Eval
set_option linter.unusedSimpArgs false
set_option linter.unusedVariables false
namespace Pv
open Go

inductive PV where
  | any
  | bool (b : Bool)
  | ub
  | int (k : IntKind) (n : Int)
  | str (s : ByteArray)
  | agg (cs : List PV)
  | tup (vs : List PV)
  | ptr (b g s i o : Nat)
  | addr (a : Addr)
  | nilp
  | ept (s : Nat) (xs : List PV) (i o : Nat)
  | sl (s : Nat) (xs : List PV)
  | bsl (b g s i n : Nat)
  | nils
  | clo (f : FuncId) (first cap : List PV)
  | nilf
  | ifc (t : TypeId) (v : PV)
  | nili
  | map (b g : Nat)
  | nilm
  deriving Inhabited

def PV.cells : PV → List PV
  | .agg cs => cs
  | x => [x]

def PV.within (S : Nat → Bool) : PV → Bool
  | .ptr b _ _ _ _ => S b
  | .bsl b _ _ _ _ => S b
  | .map b _ => S b
  | .agg cs => go cs
  | .tup cs => go cs
  | .clo _ xs ys => go xs && go ys
  | .ifc _ x => x.within S
  | _ => true
  where
  go : List PV → Bool
    | [] => true
    | x :: t => x.within S && go t

abbrev PV.closed (p : PV) : Bool := p.within fun _ => false

inductive Body where
  | dead
  | arr (s : Nat) (xs : List PV)
  | map (es : List (PV × PV))

structure Box where
  gen : Nat
  own : Bool
  body : Body

abbrev Heap := List (Nat × Box)

def find : Heap → Nat → Option Box
  | [], _ => none
  | (k, x) :: t, b => if k = b then some x else find t b

def put : Heap → Nat → Box → Heap
  | [], b, x => [(b, x)]
  | (k, y) :: t, b, x => if k = b then (b, x) :: t else (k, y) :: put t b x

structure TI where
  agg : Bool
  size : Nat
  bytes : Nat
  zero : PV

def ofScalar : Value → PV
  | .bool b => .bool b
  | .int k n => .int k n
  | .string s => .str s
  | .pointer none => .nilp
  | .slice none 0 0 => .nils
  | .map none => .nilm
  | .nilFunc => .nilf
  | .nilIface => .nili
  | _ => .any

def ofConst : Value → PV
  | .agg cs => .agg (cs.toList.map ofScalar)
  | .tuple _ => .any
  | v => ofScalar v

def isAggD : TypeDesc → Bool
  | .struct _ | .array _ _ => true
  | _ => false

def tyI (P : Program) (t : TypeId) : Option TI :=
  match P.info? t, P.underlying t with
  | some i, some d => some { agg := isAggD d, size := i.size, bytes := i.bytes, zero := (i.zero.map ofConst).getD .any }
  | _, _ => none

def fldI (P : Program) (t : TypeId) (f : Nat) : Option (Nat × TypeId) :=
  match P.underlying t with
  | some (.struct fs) => (fs[f]?).bind fun x => if P.cellsOf x.type = 0 then none else some (x.offset, x.type)
  | _ => none

inductive EK where
  | slice | array (n : Nat)
  deriving DecidableEq

def elemI (P : Program) (t : TypeId) : Option (EK × TypeId) :=
  match P.underlying t with
  | some (.slice e) => if (P.info? e).isSome then some (.slice, e) else none
  | some (.array n e) => if (P.info? e).isSome then some (.array n, e) else none
  | _ => none

def ev (T : List PV) : Operand → PV
  | .tmp t => T.getD t (.tup [])
  | .const v => ofConst v
  | .global g => .addr ⟨g, 0, none⟩
  | .func f => .clo f [] []

structure Res where
  v : PV
  rd : List Nat := []
  wr : List (Nat × Box) := []

def loadE (agg : Bool) (n : Nat) (x : PV) (o : Nat) : Option PV :=
  if agg then (if o + n ≤ x.cells.length then some (.agg ((x.cells.drop o).take n)) else none) else x.cells[o]?

def splice (cs : List PV) (o : Nat) (vs : List PV) : List PV := cs.take o ++ vs ++ cs.drop (o + vs.length)

def PV.setc (x : PV) (o : Nat) (vs : List PV) : PV :=
  match x with
  | .agg cs => .agg (splice cs o vs)
  | _ => vs.headD .any

def binop (op : BinOp) (x y : PV) : Option PV :=
  match op, x, y with
  | .add, .int k a, .int k' b => if k = k' then some (.int k (k.wrap (a + b))) else none
  | .sub, .int k a, .int k' b => if k = k' then some (.int k (k.wrap (a - b))) else none
  | .mul, .int k a, .int k' b => if k = k' then some (.int k (k.wrap (a * b))) else none
  | .lss, .int k a, .int k' b => if k = k' then some (.bool (decide (a < b))) else none
  | .leq, .int k a, .int k' b => if k = k' then some (.bool (decide (a ≤ b))) else none
  | .gtr, .int k a, .int k' b => if k = k' then some (.bool (decide (a > b))) else none
  | .geq, .int k a, .int k' b => if k = k' then some (.bool (decide (a ≥ b))) else none
  | .eql, .int k a, .int k' b => if k = k' then some (.bool (a == b)) else none
  | .neq, .int k a, .int k' b => if k = k' then some (.bool (a != b)) else none
  | .shr, .int k a, .int _ b => if 0 ≤ b ∧ b.toNat ≤ k.bits then some (.int k (a.fdiv (2 ^ b.toNat))) else none
  | .add, .str a, .str b => if a.size + b.size ≤ maxLen then some (.str (a ++ b)) else none
  | .eql, .str a, .str b => some (.bool (a.toList == b.toList))
  | .neq, .str a, .str b => some (.bool (!(a.toList == b.toList)))
  | .lss, .str a, .str b => some (.bool (Op.bytesLess a.toList b.toList))
  | .leq, .str a, .str b => some (.bool (Op.bytesLess a.toList b.toList || a.toList == b.toList))
  | .gtr, .str a, .str b => some (.bool (!(Op.bytesLess a.toList b.toList || a.toList == b.toList)))
  | .geq, .str a, .str b => some (.bool (!Op.bytesLess a.toList b.toList))
  | _, _, _ => none

inductive LK where
  | bool | int | str
  deriving DecidableEq

def plainFs (f : TypeId → Option (List LK)) (P : Program) : List Field → Nat → Option (List LK)
  | [], _ => some []
  | x :: fs, off => match f x.type with
    | some ls => if x.name ≠ "_" ∧ x.offset = off ∧ P.cellsOf x.type = ls.length then (plainFs f P fs (off + ls.length)).map (ls ++ ·) else none
    | none => none

def plainT (P : Program) : Nat → TypeId → Option (List LK)
  | 0, _ => none
  | d + 1, t => match P.underlying t with
    | some .bool => some [.bool]
    | some (.int _) => some [.int]
    | some .string => some [.str]
    | some (.struct fs) => if P.stoodInHeld t = true ∨ P.eqGuardType P.depth t = true then none else plainFs (plainT P d) P fs.toList 0
    | some (.array n e) => if P.eqGuardType P.depth t = true then none else match plainT P d e with
      | some ls => if P.cellsOf e = ls.length then some (List.replicate n ls).flatten else none
      | none => none
    | _ => none

def eqL : List LK → List PV → List PV → Option Bool
  | [], [], [] => some true
  | .int :: ls, .int k a :: xs, .int k' b :: ys => if k = k' then (eqL ls xs ys).map ((a == b) && ·) else none
  | .bool :: ls, .bool a :: xs, .bool b :: ys => (eqL ls xs ys).map ((a == b) && ·)
  | .str :: ls, .str a :: xs, .str b :: ys => (eqL ls xs ys).map ((a.toList == b.toList) && ·)
  | _, _, _ => none

def sEq (P : Program) (t : TypeId) (x y : PV) : Option Bool :=
  match x, y with
  | .bool a, .bool b => match P.underlying t with
    | some .bool => some (a == b)
    | _ => none
  | .agg xs, .agg ys => match tyI P t, plainT P 100 t with
    | some ti, some ls => if ti.agg = true then eqL ls xs ys else none
    | _, _ => none
  | _, _ => none

def sBin (P : Program) (op : BinOp) (t : TypeId) (x y : PV) : Option PV :=
  match op, x, y with
  | .eql, .bool _, .bool _ | .eql, .agg _, .agg _ => (sEq P t x y).map .bool
  | .neq, .bool _, .bool _ | .neq, .agg _, .agg _ => (sEq P t x y).map fun b => .bool (!b)
  | _, _, _ => binop op x y

def sNil (H : Nat → Option Box) (P : Program) (t : TypeId) (x y : PV) (neg : Bool) : Option Res :=
  match P.underlying t, y with
  | some (.slice _), .nils => match x with
    | .nils => some { v := .bool (!neg) }
    | .sl _ [] => some { v := .ub }
    | .sl _ (_ :: _) => some { v := .bool neg }
    | .bsl b g _ _ n => if curB H b g then some { v := if 0 < n then .bool neg else .ub, rd := [b] } else none
    | _ => none
  | _, _ => none
  where
  curB (H : Nat → Option Box) (b g : Nat) : Bool := match H b with | some x => x.gen == g | none => false

def sBinH (P : Program) (H : Nat → Option Box) (op : BinOp) (t : TypeId) (x y : PV) : Option Res :=
  match op, y with
  | .eql, .nils => sNil H P t x y false
  | .neq, .nils => sNil H P t x y true
  | _, _ => (sBin P op t x y).map fun v => { v }

def cur (H : Nat → Option Box) (b g : Nat) : Bool :=
  match H b with
  | some x => x.gen == g
  | none => false

def boxArr (H : Nat → Option Box) (b g s : Nat) : Option (Box × List PV) :=
  match H b with
  | some x => match x.body with
    | .arr s' xs => if x.gen = g ∧ s' = s then some (x, xs) else none
    | _ => none
  | none => none

def genOf (H : Nat → Option Box) (b : Nat) : Nat :=
  match H b with
  | some y => y.gen + 1
  | none => 0

def PV.cellB : PV → Bool
  | .any | .agg _ | .tup _ => false
  | _ => true

def okElem (x : PV) (n : Nat) : Bool := x.cells.length == n && x.cells.all PV.cellB

def sFieldAddr (P : Program) (H : Nat → Option Box) (t : TypeId) (x : PV) (f : Nat) : Option Res :=
  match fldI P t f, x with
  | some (off, _), .ptr b g s i p => if cur H b g then some { v := .ptr b g s i (p + off), rd := [b] } else none
  | some (off, _), .ept s xs i p => some { v := .ept s xs i (p + off) }
  | _, _ => none

def sField (P : Program) (t : TypeId) (x : PV) (f : Nat) : Option Res :=
  match fldI P t f, x with
  | some (off, ft), .agg cs => match tyI P ft with
    | some ti => (loadE ti.agg ti.size (.agg cs) off).map fun v => { v }
    | none => none
  | _, _ => none

def sLoad (P : Program) (H : Nat → Option Box) (t : TypeId) (x : PV) : Option Res :=
  match tyI P t, x with
  | some ti, .ptr b g s i p => match boxArr H b g s with
    | some (_, xs) => match xs[i]? with
      | some x => (loadE ti.agg ti.size x p).map fun v => { v, rd := [b] }
      | none => none
    | none => none
  | some ti, .ept _ xs i p => match xs[i]? with
    | some x => (loadE ti.agg ti.size x p).map fun v => { v }
    | none => none
  | _, _ => none

def sStore (P : Program) (H : Nat → Option Box) (t : TypeId) (x v : PV) : Option Res :=
  match tyI P t, x with
  | some ti, .ptr b g s i p => match boxArr H b g s with
    | some (y, xs) => match xs[i]? with
      | some e => if y.own = true ∧ okElem v ti.size = true ∧ p + ti.size ≤ e.cells.length then
          some { v := .tup [], rd := [b], wr := [(b, { y with body := .arr s (xs.set i (e.setc p v.cells)) })] } else none
      | none => none
    | none => none
  | _, _ => none

def newBox (H : Nat → Option Box) (b s : Nat) (xs : List PV) : List (Nat × Box) := [(b, ⟨genOf H b, true, .arr s xs⟩)]

def sBox (P : Program) (H : Nat → Option Box) (d : Nat) (t : TypeId) (x : PV) : Option Res :=
  match tyI P t with
  | some ti => if okElem x ti.size = true then some { v := .ptr d (genOf H d) ti.size 0 0, rd := [d], wr := newBox H d ti.size [x] } else none
  | none => none

def sAlloc (P : Program) (H : Nat → Option Box) (d : Nat) (t : TypeId) : Option Res :=
  match tyI P t with
  | some ti => if okElem ti.zero ti.size = true then some { v := .ptr d (genOf H d) ti.size 0 0, rd := [d], wr := newBox H d ti.size [ti.zero] } else none
  | none => none

def sIndexAddr (P : Program) (H : Nat → Option Box) (t : TypeId) (x ix : PV) : Option Res :=
  match elemI P t, x, ix with
  | some (.slice, e), .sl s xs, .int _ i => if P.cellsOf e = s ∧ 0 ≤ i ∧ i < xs.length then some { v := .ept s xs i.toNat 0 } else none
  | some (.slice, e), .bsl b g s st n, .int _ i => if cur H b g = true ∧ P.cellsOf e = s ∧ 0 ≤ i ∧ i < n then some { v := .ptr b g s (st + i.toNat) 0, rd := [b] } else none
  | some (.array m, e), .ptr b g s j p, .int _ i => if cur H b g = true ∧ 0 ≤ i ∧ i < m then some { v := .ptr b g s j (p + i.toNat * P.cellsOf e), rd := [b] } else none
  | _, _, _ => none

def sLen (P : Program) (H : Nat → Option Box) (t : TypeId) (x : PV) : Option Res :=
  match elemI P t, x with
  | some (.slice, _), .sl _ xs => some { v := .int .i64 xs.length }
  | some (.slice, _), .bsl b g _ _ n => if cur H b g then some { v := .int .i64 n, rd := [b] } else none
  | some (.slice, _), .nils => some { v := .int .i64 0 }
  | none, .str s => if isStr P t then some { v := .int .i64 s.size } else none
  | _, _ => none
  where
  isStr (P : Program) (t : TypeId) : Bool := match P.underlying t with | some .string => true | _ => false

def layParts (T : List PV) (n : Nat) : List (Nat × Operand) → List PV → Option (List PV)
  | [], xs => some xs
  | (i, x) :: rest, xs => if okElem (ev T x) n = true ∧ i < xs.length then layParts T n rest (xs.set i (ev T x)) else none

def sBuildSlice (P : Program) (H : Nat → Option Box) (T : List PV) (d : Nat) (t : TypeId) (len : Nat) (parts : List (Nat × Operand)) : Option Res :=
  match elemI P t with
  | some (.slice, e) => match tyI P e with
    | some ti => if okElem ti.zero ti.size = true ∧ 0 < ti.size ∧ len * ti.size ≤ 2 ^ 24 then
        match layParts T ti.size parts (List.replicate len ti.zero) with
        | some xs => some { v := .bsl d (genOf H d) ti.size 0 len, rd := [d], wr := newBox H d ti.size xs }
        | none => none
      else none
    | none => none
  | _ => none

def layFields (T : List PV) (P : Program) (t : TypeId) : List (Nat × Operand) → List PV → Option (List PV)
  | [], cs => some cs
  | (i, x) :: rest, cs => match fldI P t i with
    | some (off, ft) => if okElem (ev T x) (P.cellsOf ft) = true ∧ off + P.cellsOf ft ≤ cs.length then layFields T P t rest (splice cs off (ev T x).cells) else none
    | none => none

def sBuild (P : Program) (T : List PV) (t : TypeId) (parts : List (Nat × Operand)) : Option Res :=
  match tyI P t with
  | some ti => match ti.zero with
    | .agg cs => if cs.length = ti.size ∧ isStruct P t = true then (layFields T P t parts cs).map fun cs => { v := .agg cs } else none
    | _ => none
  | none => none
  where
  isStruct (P : Program) (t : TypeId) : Bool := match P.underlying t with | some (.struct fs) => fs.toList.all fun f => (P.info? f.type).isSome | _ => false

def sConvert (P : Program) (src dst : TypeId) (x : PV) : Option Res :=
  match P.underlying src, P.underlying dst, x with
  | some (.int _), some (.int k), .int _ n => some { v := .int k (k.wrap n) }
  | some .string, some .string, .str s => some { v := .str s }
  | _, _, _ => none

def boundOf (x : Option PV) (dflt : Nat) : Option Nat :=
  match x with
  | none => some dflt
  | some (.int _ i) => if 0 ≤ i then some i.toNat else none
  | _ => none

def sSlice (P : Program) (H : Nat → Option Box) (t : TypeId) (x : PV) (lo hi mx : Option PV) : Option Res :=
  match elemI P t, x, mx with
  | some (.slice, e), .sl s xs, none => match boundOf lo 0, boundOf hi xs.length with
    | some l, some h => if P.cellsOf e = s ∧ l ≤ h ∧ h ≤ xs.length then some { v := .sl s ((xs.drop l).take (h - l)) } else none
    | _, _ => none
  | some (.slice, e), .bsl b g s st n, none => match boundOf lo 0, boundOf hi n with
    | some l, some h => if cur H b g = true ∧ P.cellsOf e = s ∧ l ≤ h ∧ h ≤ n then some { v := .bsl b g s (st + l) (h - l), rd := [b] } else none
    | _, _ => none
  | some (.array m, e), .ptr b g s i p, none => match boxArr H b g s with
    | some (y, xs) => match xs[i]? with
      | some x => match boundOf lo 0, boundOf hi m with
        | some l, some h => if P.cellsOf e = 1 ∧ l ≤ h ∧ h ≤ m ∧ p + m ≤ x.cells.length ∧ (((x.cells.drop p).take m).all fun q => q.cellB && q.closed) = true then
            some { v := .sl 1 ((((x.cells.drop p).take m).drop l).take (h - l)), rd := [b], wr := [(b, { y with own := false })] } else none
        | _, _ => none
      | none => none
    | none => none
  | _, _, _ => none

def sAppend (P : Program) (H : Nat → Option Box) (d : Nat) (t t' : TypeId) (x y : PV) : Option Res :=
  match elemI P t, elemI P t' with
  | some (.slice, e), some (.slice, e') => match tyI P e, (if e' = e then srcOf (P.cellsOf e) y else none) with
    | some ti, some (ys, ids) => if okElem ti.zero ti.size = true ∧ 0 < ti.size then
        match x with
        | .nils => if ys.length * ti.bytes ≤ 140737488355328 ∧ ys.length ≤ maxLen then
            some { v := .bsl d (genOf H d) ti.size 0 ys.length, rd := d :: ids, wr := newBox H d ti.size ys } else none
        | .bsl b g s st n => match boxArr H b g s with
          | some (z, xs) => if z.own = true ∧ s = ti.size ∧ st = 0 ∧ n ≤ xs.length ∧ (n + ys.length) * ti.bytes ≤ 140737488355328 ∧ n + ys.length ≤ maxLen then
              some { v := .bsl b (g + 1) s 0 (n + ys.length), rd := b :: ids, wr := [(b, ⟨g + 1, true, .arr s (xs.take n ++ ys)⟩)] } else none
          | none => none
        | _ => none
      else none
    | _, _ => none
  | _, _ => none
  where
  srcOf (k : Nat) (y : PV) : Option (List PV × List Nat) :=
    match y with
    | .sl s ys => if s = k then some (ys, []) else none
    | .nils => some ([], [])
    | .bsl b g s st n => match boxArr H b g s with
      | some (_, xs) => if s = k ∧ st + n ≤ xs.length then some ((xs.drop st).take n, [b]) else none
      | none => none
    | _ => none

def sClear (P : Program) (H : Nat → Option Box) (t : TypeId) (x : PV) : Option Res :=
  match elemI P t with
  | some (.slice, e) => match tyI P e, x with
    | some ti, .bsl b g s st n => match boxArr H b g s with
      | some (y, xs) => if y.own = true ∧ okElem ti.zero ti.size = true ∧ 0 < ti.size ∧ s = ti.size ∧ st + n ≤ xs.length then
          some { v := .tup [], rd := [b], wr := [(b, { y with body := .arr s (xs.take st ++ List.replicate n ti.zero ++ xs.drop (st + n)) })] } else none
      | none => none
    | some _, .nils => some { v := .tup [] }
    | _, _ => none
  | _ => none

def sIndex (P : Program) (t : TypeId) (x ix : PV) : Option Res :=
  match P.underlying t, x, ix with
  | some .string, .str s, .int _ i => if 0 ≤ i then match s[i.toNat]? with
      | some b => some { v := .int .u8 b.toNat }
      | none => none
    else none
  | _, _, _ => none

def fstep (P : Program) (n0 : Nat) (H : Nat → Option Box) (T : List PV) (o : Oper) : Option Res :=
  match o.op with
  | .move x | .assign x => some { v := ev T x }
  | .pick c a b => match ev T c with
    | .bool t => some { v := bif t then ev T a else ev T b }
    | _ => none
  | .fieldAddr t x f => sFieldAddr P H t (ev T x) f
  | .field t x f => sField P t (ev T x) f
  | .load t x => sLoad P H t (ev T x)
  | .store t x v => sStore P H t (ev T x) (ev T v)
  | .box t x => match o.dst with
    | some d => sBox P H (n0 + d) t (ev T x)
    | none => none
  | .alloc t => match o.dst with
    | some d => sAlloc P H (n0 + d) t
    | none => none
  | .indexAddr t x ix => sIndexAddr P H t (ev T x) (ev T ix)
  | .index t x ix => sIndex P t (ev T x) (ev T ix)
  | .binOp op t x y _ => sBinH P H op t (ev T x) (ev T y)
  | .unOp .not _ x => match ev T x with
    | .bool b => some { v := .bool (!b) }
    | _ => none
  | .convert src dst x => sConvert P src dst (ev T x)
  | .makeFunc (.func f) first cap => some { v := .clo f (first.toList.map (ev T)) (cap.toList.map (ev T)) }
  | .makeInterface t x => if P.concrete t = true then some { v := .ifc t (ev T x) } else none
  | .extract x i => match ev T x with
    | .tup vs => (vs[i]?).map fun v => { v }
    | _ => none
  | .build t parts => sBuild P T t parts.toList
  | .buildSlice t len parts => match o.dst with
    | some d => sBuildSlice P H T (n0 + d) t len parts.toList
    | none => none
  | .slice t x lo hi mx => sSlice P H t (ev T x) (lo.map (ev T)) (hi.map (ev T)) (mx.map (ev T))
  | .call { callee := .builtin .len, args, argTypes } => match args.toList, argTypes.toList with
    | [x], [t] => sLen P H t (ev T x)
    | _, _ => none
  | .call { callee := .builtin .append, args, argTypes } => match args.toList, argTypes.toList, o.dst with
    | [x, y], [t, t'], some d => sAppend P H (n0 + d) t t' (ev T x) (ev T y)
    | _, _, _ => none
  | .call { callee := .builtin .clear, args, argTypes } => match args.toList, argTypes.toList with
    | [x], [t] => sClear P H t (ev T x)
    | _, _ => none
  | _ => none

structure PS where
  T : List PV
  H : Heap

def puts (H : Heap) : List (Nat × Box) → Heap
  | [] => H
  | (k, x) :: t => puts (put H k x) t

def setD (T : List PV) (dst : Option Tmp) (v : PV) : List PV :=
  match dst with
  | some d => T.set d v
  | none => T

def Res.ap (r : Res) (st : PS) (dst : Option Tmp) : PS := ⟨setD st.T dst r.v, puts st.H r.wr⟩

def callOf (T : List PV) (o : Oper) : Option (FuncId × List PV) :=
  match o.op with
  | .call { callee := .value f, args, .. } => match ev T f with
    | .clo f first cap => some (f, first ++ args.toList.map (ev T) ++ cap)
    | _ => none
  | _ => none

end Pv
namespace Pv
open Go

structure Cx where
  w : World
  A : Nat → Prop
  β : Nat → Option Nat
  γ : Nat → Option Nat

inductive Rel (c : Cx) : Bool → PV → Value → Prop where
  | any {cl} (v) : Rel c cl .any v
  | bool {cl} (b) : Rel c cl (.bool b) (.bool b)
  | ub {cl} (b) : Rel c cl .ub (.bool b)
  | int {cl} (k n) : Rel c cl (.int k n) (.int k n)
  | str {cl} (s) : Rel c cl (.str s) (.string s)
  | agg {cl cs vs} : cs.length = vs.size → (∀ (i : Nat) x v, cs[i]? = some x → vs[i]? = some v → Rel c cl x v) → Rel c cl (.agg cs) (.agg vs)
  | tup {cl cs vs} : cs.length = vs.size → (∀ (i : Nat) x v, cs[i]? = some x → vs[i]? = some v → Rel c cl x v) → Rel c cl (.tup cs) (.tuple vs)
  | ptr {b g s i o v} (cur : Nat) : v.oneCell' = true → c.γ b = some cur → g ≤ cur → (g = cur → ∃ k, c.β b = some k ∧ v = .pointer (some ⟨k, i * s + o, none⟩)) → Rel c false (.ptr b g s i o) v
  | addr {cl} (a) : Rel c cl (.addr a) (.pointer (some a))
  | nilp {cl} : Rel c cl .nilp (.pointer none)
  | slnil {cl} (s a) : Rel c cl (.sl s []) (.slice a 0 0)
  | sl {cl s xs} (k off cap : Nat) (cells : Array Value) (e : TypeId) (fr : Nat × Nat) : c.A k → c.w.heap[k]? = some (.cells cells e fr) → off + xs.length * s ≤ cells.size → xs.length ≤ cap →
      (∀ (i : Nat) x, xs[i]? = some x → x.cells.length = s) →
      (∀ (i : Nat) x (j : Nat) y v, xs[i]? = some x → x.cells[j]? = some y → cells[off + i * s + j]? = some v → v.oneCell' = true) →
      (∀ (i : Nat) x (j : Nat) y v, xs[i]? = some x → x.cells[j]? = some y → cells[off + i * s + j]? = some v → Rel c true y v) →
      Rel c cl (.sl s xs) (.slice (some ⟨k, off, none⟩) xs.length cap)
  | ept {cl s xs} (i o k off : Nat) (cells : Array Value) (e : TypeId) (fr : Nat × Nat) : c.A k → c.w.heap[k]? = some (.cells cells e fr) → off + xs.length * s ≤ cells.size →
      (∀ (i : Nat) x, xs[i]? = some x → x.cells.length = s) →
      (∀ (i : Nat) x (j : Nat) y v, xs[i]? = some x → x.cells[j]? = some y → cells[off + i * s + j]? = some v → v.oneCell' = true) →
      (∀ (i : Nat) x (j : Nat) y v, xs[i]? = some x → x.cells[j]? = some y → cells[off + i * s + j]? = some v → Rel c true y v) →
      Rel c cl (.ept s xs i o) (.pointer (some ⟨k, off + i * s + o, none⟩))
  | bsl {b g s i n v} (cur : Nat) : v.oneCell' = true → c.γ b = some cur → g ≤ cur →
      (g = cur → (∃ k cells e fr cap, c.β b = some k ∧ c.w.heap[k]? = some (.cells cells e fr) ∧ v = .slice (some ⟨k, i * s, none⟩) n cap ∧ n ≤ cap ∧ (i + cap) * s ≤ cells.size) ∨ (n = 0 ∧ ∃ a, v = .slice a 0 0)) →
      Rel c false (.bsl b g s i n) v
  | nils {cl} : Rel c cl .nils (.slice none 0 0)
  | clo {cl f xs ys us vs} : xs.length = us.size → (∀ (i : Nat) x v, xs[i]? = some x → us[i]? = some v → Rel c cl x v) → ys.length = vs.size →
      (∀ (i : Nat) x v, ys[i]? = some x → vs[i]? = some v → Rel c cl x v) → Rel c cl (.clo f xs ys) (.func (.func f) us vs)
  | nilf {cl} : Rel c cl .nilf .nilFunc
  | ifc {cl t x v} : Rel c cl x v → Rel c cl (.ifc t x) (.iface t v)
  | nili {cl} : Rel c cl .nili .nilIface
  | map {b g v} (cur : Nat) : v.oneCell' = true → c.γ b = some cur → g ≤ cur → (g = cur → ∃ k, c.β b = some k ∧ v = .map (some k)) → Rel c false (.map b g) v
  | nilm {cl} : Rel c cl .nilm (.map none)

structure Cx.Le (c c' : Cx) : Prop where
  imm : ∀ k, c.A k → c'.A k ∧ c'.w.heap[k]? = c.w.heap[k]?
  box : ∀ b cur, c.γ b = some cur → ∃ cur', c'.γ b = some cur' ∧ cur ≤ cur' ∧ (cur' = cur → c'.β b = c.β b ∧
    ∀ k cells e fr, c.β b = some k → c.w.heap[k]? = some (.cells cells e fr) → ∃ cells' fr', c'.w.heap[k]? = some (.cells cells' e fr') ∧ cells'.size = cells.size)

theorem Cx.Le.refl (c : Cx) : c.Le c := ⟨fun _ h => ⟨h, rfl⟩, fun _ cur h => ⟨cur, h, Nat.le_refl _, fun _ => ⟨rfl, fun _ cells _ fr _ h => ⟨cells, fr, h, rfl⟩⟩⟩⟩

theorem Cx.Le.trans {a b c : Cx} (h : a.Le b) (h' : b.Le c) : a.Le c := by
  refine ⟨fun k hk => ?_, fun i cur hi => ?_⟩
  · obtain ⟨h1, h2⟩ := h.imm k hk
    obtain ⟨h3, h4⟩ := h'.imm k h1
    exact ⟨h3, h4.trans h2⟩
  · obtain ⟨cur1, h1, h2, h3⟩ := h.box i cur hi
    obtain ⟨cur2, h4, h5, h6⟩ := h'.box i cur1 h1
    refine ⟨cur2, h4, Nat.le_trans h2 h5, fun he => ?_⟩
    have e1 : cur1 = cur := by omega
    have e2 : cur2 = cur1 := by omega
    obtain ⟨f1, f2⟩ := h3 e1
    obtain ⟨f3, f4⟩ := h6 e2
    refine ⟨f3.trans f1, fun k cells e fr hk hc => ?_⟩
    obtain ⟨cells1, fr1, g1, g2⟩ := f2 k cells e fr hk hc
    obtain ⟨cells2, fr2, g3, g4⟩ := f4 k cells1 e fr1 (f1.trans hk) g1
    exact ⟨cells2, fr2, g3, g4.trans g2⟩

theorem Rel.mono {c c' : Cx} (hle : c.Le c') {cl : Bool} {p : PV} {v : Value} (h : Rel c cl p v) : Rel c' cl p v := by
  induction h with
  | any v => exact .any v
  | bool b => exact .bool b
  | ub b => exact .ub b
  | int k n => exact .int k n
  | str s => exact .str s
  | agg hl _ ih => exact .agg hl ih
  | tup hl _ ih => exact .tup hl ih
  | ptr cur h1c hc hg hv =>
    obtain ⟨cur', h1, h2, h3⟩ := hle.box _ cur hc
    refine .ptr cur' h1c h1 (Nat.le_trans hg h2) fun he => ?_
    obtain ⟨k, h4, h5⟩ := hv (by omega)
    exact ⟨k, (h3 (by omega)).1.trans h4, h5⟩
  | addr a => exact .addr a
  | nilp => exact .nilp
  | slnil s a => exact .slnil s a
  | sl k off cap cells e fr hA hh hsz hcap hs h1 _ ih =>
    obtain ⟨g1, g2⟩ := hle.imm k hA
    exact .sl k off cap cells e fr g1 (g2.trans hh) hsz hcap hs h1 ih
  | ept i o k off cells e fr hA hh hsz hs h1 _ ih =>
    obtain ⟨g1, g2⟩ := hle.imm k hA
    exact .ept i o k off cells e fr g1 (g2.trans hh) hsz hs h1 ih
  | bsl cur h1c hc hg hv =>
    obtain ⟨cur', h1, h2, h3⟩ := hle.box _ cur hc
    refine .bsl cur' h1c h1 (Nat.le_trans hg h2) fun he => ?_
    rcases hv (by omega) with ⟨k, cells, e, fr, cap, h4, h5, h6, h7, h8⟩ | hn
    · obtain ⟨f1, f2⟩ := h3 (by omega)
      obtain ⟨cells', fr', g1, g2⟩ := f2 k cells e fr h4 h5
      exact .inl ⟨k, cells', e, fr', cap, f1.trans h4, g1, h6, h7, by omega⟩
    · exact .inr hn
  | nils => exact .nils
  | clo h1 _ h2 _ ih1 ih2 => exact .clo h1 ih1 h2 ih2
  | nilf => exact .nilf
  | ifc _ ih => exact .ifc ih
  | nili => exact .nili
  | map cur h1c hc hg hv =>
    obtain ⟨cur', h1, h2, h3⟩ := hle.box _ cur hc
    refine .map cur' h1c h1 (Nat.le_trans hg h2) fun he => ?_
    obtain ⟨k, h4, h5⟩ := hv (by omega)
    exact ⟨k, (h3 (by omega)).1.trans h4, h5⟩
  | nilm => exact .nilm

theorem Rel.closed {c c' : Cx} (himm : ∀ k, c.A k → c'.A k ∧ c'.w.heap[k]? = c.w.heap[k]?) {p : PV} {v : Value} {b : Bool} (h : Rel c b p v) (hb : b = true) : ∀ cl, Rel c' cl p v := by
  induction h with
  | any v => exact fun _ => .any v
  | bool b => exact fun _ => .bool b
  | ub b => exact fun _ => .ub b
  | int k n => exact fun _ => .int k n
  | str s => exact fun _ => .str s
  | agg hl _ ih => exact fun cl => .agg hl fun i x v h1 h2 => ih i x v h1 h2 hb cl
  | tup hl _ ih => exact fun cl => .tup hl fun i x v h1 h2 => ih i x v h1 h2 hb cl
  | ptr => cases hb
  | addr a => exact fun _ => .addr a
  | nilp => exact fun _ => .nilp
  | slnil s a => exact fun _ => .slnil s a
  | sl k off cap cells e fr hA hh hsz hcap hs h1 _ ih =>
    obtain ⟨g1, g2⟩ := himm k hA
    exact fun cl => .sl k off cap cells e fr g1 (g2.trans hh) hsz hcap hs h1 fun i x j y v a b c => ih i x j y v a b c rfl true
  | ept i o k off cells e fr hA hh hsz hs h1 _ ih =>
    obtain ⟨g1, g2⟩ := himm k hA
    exact fun cl => .ept i o k off cells e fr g1 (g2.trans hh) hsz hs h1 fun i x j y v a b c => ih i x j y v a b c rfl true
  | bsl => cases hb
  | nils => exact fun _ => .nils
  | clo h1 _ h2 _ ih1 ih2 => exact fun cl => .clo h1 (fun i x v a b => ih1 i x v a b hb cl) h2 (fun i x v a b => ih2 i x v a b hb cl)
  | nilf => exact fun _ => .nilf
  | ifc _ ih => exact fun cl => .ifc (ih hb cl)
  | nili => exact fun _ => .nili
  | map => cases hb
  | nilm => exact fun _ => .nilm

theorem PV.within_go {S : Nat → Bool} {l : List PV} (h : PV.within.go S l = true) : ∀ (i : Nat) x, l[i]? = some x → x.within S = true := by
  induction l with
  | nil => intro i x hx; simp at hx
  | cons y t ih =>
    simp only [PV.within.go, Bool.and_eq_true] at h
    intro i x hx
    cases i with
    | zero => simp at hx; subst hx; exact h.1
    | succ i => exact ih h.2 i x (by simpa using hx)

theorem Rel.narrow {c : Cx} {S : Nat → Bool} {γ' : Nat → Option Nat} (hγ : ∀ b, S b = true → γ' b = c.γ b) {cl : Bool} {p : PV} {v : Value} (h : Rel c cl p v) :
    p.within S = true → Rel { c with γ := γ' } cl p v := by
  induction h with
  | any v => exact fun _ => .any v
  | bool b => exact fun _ => .bool b
  | ub b => exact fun _ => .ub b
  | int k n => exact fun _ => .int k n
  | str s => exact fun _ => .str s
  | agg hl _ ih => exact fun hw => .agg hl fun i x v h1 h2 => ih i x v h1 h2 (PV.within_go hw i x h1)
  | tup hl _ ih => exact fun hw => .tup hl fun i x v h1 h2 => ih i x v h1 h2 (PV.within_go hw i x h1)
  | ptr cur h1c hc hg hv => exact fun hw => .ptr cur h1c ((hγ _ hw).trans hc) hg hv
  | addr a => exact fun _ => .addr a
  | nilp => exact fun _ => .nilp
  | slnil s a => exact fun _ => .slnil s a
  | sl k off cap cells e fr hA hh hsz hcap hs h1 h2 _ => exact fun _ => .sl k off cap cells e fr hA hh hsz hcap hs h1 fun i x j y v a b d => Rel.closed (c := c) (c' := { c with γ := γ' }) (fun k h => ⟨h, rfl⟩) (h2 i x j y v a b d) rfl true
  | ept i o k off cells e fr hA hh hsz hs h1 h2 _ => exact fun _ => .ept i o k off cells e fr hA hh hsz hs h1 fun i x j y v a b d => Rel.closed (c := c) (c' := { c with γ := γ' }) (fun k h => ⟨h, rfl⟩) (h2 i x j y v a b d) rfl true
  | bsl cur h1c hc hg hv => exact fun hw => .bsl cur h1c ((hγ _ hw).trans hc) hg hv
  | nils => exact fun _ => .nils
  | clo h1 _ h2 _ ih1 ih2 =>
    intro hw
    simp only [PV.within, Bool.and_eq_true] at hw
    exact .clo h1 (fun i x v a b => ih1 i x v a b (PV.within_go hw.1 i x a)) h2 (fun i x v a b => ih2 i x v a b (PV.within_go hw.2 i x a))
  | nilf => exact fun _ => .nilf
  | ifc _ ih => exact fun hw => .ifc (ih hw)
  | nili => exact fun _ => .nili
  | map cur h1c hc hg hv => exact fun hw => .map cur h1c ((hγ _ hw).trans hc) hg hv
  | nilm => exact fun _ => .nilm

theorem Rel.toClosed {c : Cx} {cl : Bool} {p : PV} {v : Value} (h : Rel c cl p v) : p.closed = true → Rel c true p v := by
  induction h with
  | any v => exact fun _ => .any v
  | bool b => exact fun _ => .bool b
  | ub b => exact fun _ => .ub b
  | int k n => exact fun _ => .int k n
  | str s => exact fun _ => .str s
  | agg hl _ ih => exact fun hw => .agg hl fun i x v h1 h2 => ih i x v h1 h2 (PV.within_go hw i x h1)
  | tup hl _ ih => exact fun hw => .tup hl fun i x v h1 h2 => ih i x v h1 h2 (PV.within_go hw i x h1)
  | ptr cur h1c hc hg hv => exact fun hw => by simp [PV.closed, PV.within] at hw
  | addr a => exact fun _ => .addr a
  | nilp => exact fun _ => .nilp
  | slnil s a => exact fun _ => .slnil s a
  | sl k off cap cells e fr hA hh hsz hcap hs h1 h2 _ => exact fun _ => .sl k off cap cells e fr hA hh hsz hcap hs h1 h2
  | ept i o k off cells e fr hA hh hsz hs h1 h2 _ => exact fun _ => .ept i o k off cells e fr hA hh hsz hs h1 h2
  | bsl cur h1c hc hg hv => exact fun hw => by simp [PV.closed, PV.within] at hw
  | nils => exact fun _ => .nils
  | clo h1 _ h2 _ ih1 ih2 =>
    intro hw
    simp only [PV.closed, PV.within, Bool.and_eq_true] at hw
    exact .clo h1 (fun i x v a b => ih1 i x v a b (PV.within_go hw.1 i x a)) h2 (fun i x v a b => ih2 i x v a b (PV.within_go hw.2 i x a))
  | nilf => exact fun _ => .nilf
  | ifc _ ih => exact fun hw => .ifc (ih hw)
  | nili => exact fun _ => .nili
  | map cur h1c hc hg hv => exact fun hw => by simp [PV.closed, PV.within] at hw
  | nilm => exact fun _ => .nilm

theorem Rel.open {c : Cx} {p : PV} {v : Value} (h : Rel c true p v) : Rel c false p v := h.closed (fun _ h => ⟨h, rfl⟩) rfl false


def Box.live (x : Box) : Bool := match x.body with | .dead => false | _ => true

structure RowRel (c : Cx) (own : Bool) (s : Nat) (xs : List PV) (k : Nat) : Prop where
  ex : ∃ cells e fr, c.w.heap[k]? = some (.cells cells e fr) ∧ (own = true → fr = (0, 0)) ∧ xs.length * s ≤ cells.size ∧
    (∀ (i : Nat) x, xs[i]? = some x → x.cells.length = s) ∧
    (∀ (i : Nat) x (j : Nat) y v, xs[i]? = some x → x.cells[j]? = some y → cells[i * s + j]? = some v → v.oneCell' = true ∧ Rel c false y v)

def stampsOk (es : List MapEntry) (clock : Nat) : Prop := (es.map (·.born)).Nodup ∧ ∀ m ∈ es, m.born < clock

structure MapRel (c : Cx) (es : List (PV × PV)) (k : Nat) : Prop where
  ex : ∃ ms clock, c.w.heap[k]? = some (.map ms clock) ∧ es.length = ms.size ∧ stampsOk ms.toList clock ∧
    (∀ (i : Nat) e m, es[i]? = some e → ms[i]? = some m → Rel c true e.1 m.key ∧ Rel c false e.2 m.val)

def BoxRel (c : Cx) (b : Nat) (x : Box) : Prop :=
  match x.body with
  | .dead => True
  | .arr s xs => (∃ k, c.β b = some k ∧ RowRel c x.own s xs k) ∨ (xs = [] ∧ c.β b = none)
  | .map es => ∃ k, c.β b = some k ∧ MapRel c es k

abbrev FH := Nat → Option Box

structure Sim (c : Cx) (H : FH) : Prop where
  gam : ∀ b, c.γ b = (H b).map Box.gen
  box : ∀ b x, H b = some x → BoxRel c b x
  inj : ∀ b b' x x' k, H b = some x → H b' = some x' → x.own = true → x.live = true → x'.live = true → b ≠ b' → c.β b = some k → c.β b' ≠ some k
  sep : ∀ b x k, H b = some x → x.own = true → x.live = true → c.β b = some k → ¬ c.A k
  frz : ∀ b x k, H b = some x → x.own = false → x.live = true → c.β b = some k → c.A k
  bnd : ∀ k, c.A k → k < c.w.heap.size
  ded : ∀ b x, H b = some x → x.live = false → c.β b = none

def Owned (c : Cx) (H : FH) (k : Nat) : Prop := ∃ b x, H b = some x ∧ x.own = true ∧ x.live = true ∧ c.β b = some k

structure Ext (c : Cx) (H : FH) (c' : Cx) (H' : FH) : Prop where
  le : c.Le c'
  os : c'.w.os = c.w.os
  tape : c'.w.tape = c.w.tape
  output : c'.w.output = c.w.output
  size : c.w.heap.size ≤ c'.w.heap.size
  old : ∀ k, k < c.w.heap.size → ¬ Owned c H k → c'.w.heap[k]? = c.w.heap[k]?
  imm : ∀ k, c'.A k → c.A k ∨ c.w.heap.size ≤ k ∨ Owned c H k
  own : ∀ k, Owned c' H' k → c.w.heap.size ≤ k ∨ Owned c H k

theorem Ext.refl (c : Cx) (H : FH) : Ext c H c H :=
  ⟨.refl c, rfl, rfl, rfl, Nat.le_refl _, fun _ _ _ => rfl, fun _ h => .inl h, fun _ h => .inr h⟩

theorem Ext.trans {c c' c'' : Cx} {H H' H'' : FH} (h : Ext c H c' H') (h' : Ext c' H' c'' H'') : Ext c H c'' H'' := by
  refine ⟨h.le.trans h'.le, h'.os.trans h.os, h'.tape.trans h.tape, h'.output.trans h.output, Nat.le_trans h.size h'.size, fun k hk ho => ?_, fun k hk => ?_, fun k hk => ?_⟩
  · rw [h'.old k (Nat.lt_of_lt_of_le hk h.size) (fun hw => ?_), h.old k hk ho]
    rcases h.own k hw with h1 | h1
    · omega
    · exact ho h1
  · rcases h'.imm k hk with h1 | h1 | h1
    · exact h.imm k h1
    · exact .inr (.inl (Nat.le_trans h.size h1))
    · rcases h.own k h1 with h2 | h2
      · exact .inr (.inl h2)
      · exact .inr (.inr h2)
  · rcases h'.own k hk with h1 | h1
    · exact .inl (Nat.le_trans h.size h1)
    · exact h.own k h1

def RelL (c : Cx) (ps : List PV) (vs : List Value) : Prop := ps.length = vs.length ∧ ∀ (i : Nat) p v, ps[i]? = some p → vs[i]? = some v → Rel c false p v

theorem RelL.mono {c c' : Cx} (hle : c.Le c') {ps : List PV} {vs : List Value} (h : RelL c ps vs) : RelL c' ps vs :=
  ⟨h.1, fun i p v a b => (h.2 i p v a b).mono hle⟩

theorem RelL.nil (c : Cx) : RelL c [] [] := ⟨rfl, fun i p v h => by simp at h⟩
theorem RelL.cons {c : Cx} {p : PV} {v : Value} {ps : List PV} {vs : List Value} (h : Rel c false p v) (ht : RelL c ps vs) : RelL c (p :: ps) (v :: vs) := by
  refine ⟨by simp [ht.1], fun i q u a b => ?_⟩
  cases i with
  | zero => simp at a b; subst a; subst b; exact h
  | succ i => exact ht.2 i q u (by simpa using a) (by simpa using b)
theorem RelL.set {c : Cx} {ps : List PV} {vs : List Value} (h : RelL c ps vs) {p : PV} {v : Value} (hp : Rel c false p v) (d : Nat) : RelL c (ps.set d p) (vs.set d v) := by
  refine ⟨by simp [h.1], fun i q u a b => ?_⟩
  rw [List.getElem?_set] at a b
  by_cases hd : d = i
  · subst hd
    simp only [if_true] at a b
    split at a
    · rw [if_pos (by rw [← h.1]; assumption)] at b
      simp at a b; subst a; subst b; exact hp
    · simp at a
  · simp only [hd, if_false] at a b
    exact h.2 i q u a b

def PCall (P : Program) (f : FuncId) (args : List PV) (H : FH) (R : PV → FH → Prop) : Prop :=
  ∀ (c : Cx) (vs : List Value), Sim c H → RelL c args vs → Calls P f vs.toArray c.w fun e w' => ∃ r v c' H', e = .returned v ∧ c'.w = w' ∧ R r H' ∧ Sim c' H' ∧ Rel c' false r v ∧ Ext c H c' H'

theorem PCall.mono {P : Program} {f : FuncId} {args : List PV} {H : FH} {R R' : PV → FH → Prop} (h : PCall P f args H R) (hr : ∀ r H', R r H' → R' r H') : PCall P f args H R' :=
  fun c vs hs ha => (h c vs hs ha).mono fun _ _ ⟨r, v, c', H', h1, h2, h3, h4⟩ => ⟨r, v, c', H', h1, h2, hr _ _ h3, h4⟩

end Pv
namespace Pv
open Go

def Body.within (S : Nat → Bool) : Body → Prop
  | .dead => True
  | .arr _ xs => ∀ x ∈ xs, x.within S = true
  | .map es => ∀ e ∈ es, e.2.within S = true

theorem PV.within_cells {S : Nat → Bool} {x : PV} (h : x.within S = true) : ∀ (j : Nat) y, x.cells[j]? = some y → y.within S = true := by
  intro j y hy
  cases x with
  | agg cs => exact PV.within_go (by simpa [PV.within] using h) j y (by simpa [PV.cells] using hy)
  | _ =>
    simp only [PV.cells] at hy
    cases j with
    | zero => simp at hy; subst hy; exact h
    | succ j => simp at hy

theorem RowRel.mono {c c' : Cx} (hle : c.Le c') {own : Bool} {s : Nat} {xs : List PV} {k : Nat} (hk : c'.w.heap[k]? = c.w.heap[k]?) (h : RowRel c own s xs k) : RowRel c' own s xs k := by
  obtain ⟨cells, e, fr, h1, h2, h3, h4, h5⟩ := h.ex
  exact ⟨cells, e, fr, hk.trans h1, h2, h3, h4, fun i x j y v a b d => ⟨(h5 i x j y v a b d).1, (h5 i x j y v a b d).2.mono hle⟩⟩

theorem MapRel.mono {c c' : Cx} (hle : c.Le c') {es : List (PV × PV)} {k : Nat} (hk : c'.w.heap[k]? = c.w.heap[k]?) (h : MapRel c es k) : MapRel c' es k := by
  obtain ⟨ms, clock, h1, h2, h3, h4⟩ := h.ex
  exact ⟨ms, clock, hk.trans h1, h2, h3, fun i e m a b => ⟨(h4 i e m a b).1.mono hle, (h4 i e m a b).2.mono hle⟩⟩

theorem BoxRel.mono {c c' : Cx} (hle : c.Le c') {b : Nat} {x : Box} (hb : c'.β b = c.β b) (hk : ∀ k, c.β b = some k → c'.w.heap[k]? = c.w.heap[k]?) (h : BoxRel c b x) : BoxRel c' b x := by
  unfold BoxRel at *
  split at h
  · trivial
  · rcases h with ⟨k, h1, h2⟩ | ⟨h1, h2⟩
    · exact .inl ⟨k, hb.trans h1, h2.mono hle (hk k h1)⟩
    · exact .inr ⟨h1, hb.trans h2⟩
  · obtain ⟨k, h1, h2⟩ := h
    exact ⟨k, hb.trans h1, h2.mono hle (hk k h1)⟩

theorem BoxRel.narrow {c : Cx} {S : Nat → Bool} {γ' : Nat → Option Nat} (hγ : ∀ b, S b = true → γ' b = c.γ b) {b : Nat} {x : Box} (hw : x.body.within S) (h : BoxRel c b x) :
    BoxRel { c with γ := γ' } b x := by
  unfold BoxRel at *
  split at h
  · simp_all
  · rename_i s xs hb
    rw [hb] at hw
    simp only [Body.within] at hw
    rcases h with ⟨k, h1, h2⟩ | h1
    · obtain ⟨cells, e, fr, g1, g2, g3, g4, g5⟩ := h2.ex
      refine .inl ⟨k, h1, ⟨cells, e, fr, g1, g2, g3, g4, fun i x j y v a b d => ⟨(g5 i x j y v a b d).1, (g5 i x j y v a b d).2.narrow hγ ?_⟩⟩⟩
      exact PV.within_cells (hw x (List.mem_of_getElem? a)) j y b
    · exact .inr h1
  · rename_i es hb
    rw [hb] at hw
    simp only [Body.within] at hw
    obtain ⟨k, h1, h2⟩ := h
    obtain ⟨ms, clock, g1, g2, g3, g4⟩ := h2.ex
    exact ⟨k, h1, ⟨ms, clock, g1, g2, g3, fun i e m a b => ⟨(g4 i e m a b).1.closed (c := c) (c' := { c with γ := γ' }) (fun _ h => ⟨h, rfl⟩) rfl true, (g4 i e m a b).2.narrow hγ (hw e (List.mem_of_getElem? a))⟩⟩⟩

theorem BoxRel.lt {c : Cx} {b : Nat} {x : Box} (h : BoxRel c b x) (hl : x.live = true) {k : Nat} (hk : c.β b = some k) : k < c.w.heap.size := by
  unfold BoxRel at h
  unfold Box.live at hl
  split at h
  · simp_all
  · rcases h with ⟨k', h1, h2⟩ | ⟨_, h2⟩
    · obtain ⟨cells, e, fr, g1, _⟩ := h2.ex
      rw [h1] at hk; cases hk
      exact (Array.getElem?_eq_some_iff.1 g1).1
    · rw [h2] at hk; cases hk
  · obtain ⟨k', h1, h2⟩ := h
    obtain ⟨ms, clock, g1, _⟩ := h2.ex
    rw [h1] at hk; cases hk
    exact (Array.getElem?_eq_some_iff.1 g1).1

theorem PCall.frame {P : Program} {f : FuncId} {args : List PV} {H : FH} {R : PV → FH → Prop} (h : PCall P f args H R) (Hb : FH)
    (hsub : ∀ b x, H b = some x → Hb b = some x) (hin : ∀ a ∈ args, a.within (fun b => (H b).isSome) = true) (hbox : ∀ b x, H b = some x → x.body.within (fun b => (H b).isSome))
    (hfresh : ∀ r H1, R r H1 → ∀ b, (H1 b).isSome = true → (H b).isSome = true ∨ Hb b = none) :
    PCall P f args Hb fun r H' => ∃ H1, R r H1 ∧ H' = fun b => (H1 b).or (Hb b) := by
  intro c vs hs ha
  have hγ : ∀ b, (H b).isSome = true → (H b).map Box.gen = c.γ b := fun b hb => by
    obtain ⟨x, hx⟩ := Option.isSome_iff_exists.1 hb
    rw [hs.gam b, hx, hsub b x hx]
  have hsm : Sim { c with γ := fun b => (H b).map Box.gen } H :=
    ⟨fun _ => rfl, fun b x hx => (hs.box b x (hsub b x hx)).narrow (S := fun b => (H b).isSome) hγ (hbox b x hx),
     fun b b' x x' k hx hx' => hs.inj b b' x x' k (hsub _ _ hx) (hsub _ _ hx'), fun b x k hx => hs.sep b x k (hsub _ _ hx), fun b x k hx => hs.frz b x k (hsub _ _ hx), hs.bnd, fun b x hx => hs.ded b x (hsub _ _ hx)⟩
  have has : RelL { c with γ := fun b => (H b).map Box.gen } args vs :=
    ⟨ha.1, fun i p v a b => (ha.2 i p v a b).narrow (S := fun b => (H b).isSome) hγ (hin p (List.mem_of_getElem? a))⟩
  refine (h _ vs hsm has).mono ?_
  rintro e w' ⟨r, v, c1, H1, rfl, rfl, hR, h1, hr, hx⟩
  have hown : ∀ k, Owned { c with γ := fun b => (H b).map Box.gen } H k → Owned c Hb k := fun k ⟨b, x, a1, a2, a3, a4⟩ => ⟨b, x, hsub _ _ a1, a2, a3, a4⟩
  have hin1 : ∀ b, (H b).isSome = true → (H1 b).isSome = true := fun b hb => by
    obtain ⟨x, hx'⟩ := Option.isSome_iff_exists.1 hb
    obtain ⟨cur', g1, _⟩ := hx.le.box b x.gen (by simp [hx'])
    rw [h1.gam b] at g1
    cases hh : H1 b <;> simp_all
  have hout : ∀ b, H1 b = none → H b = none := fun b hb => by
    cases hh : H b with
    | none => rfl
    | some x => have := hin1 b (by simp [hh]); simp [hb] at this
  have hnew : ∀ b x, H1 b = none → Hb b = some x → ∀ k, c.β b = some k → x.live = true → x.own = true → ¬ Owned { c with γ := fun b => (H b).map Box.gen } H k := by
    rintro b x hb hx' k hk hl ho ⟨b0, x0, a1, a2, a3, a4⟩
    refine hs.inj b0 b x0 x k (hsub _ _ a1) hx' a2 a3 hl (fun e => ?_) a4 hk
    subst e
    rw [hout b0 hb] at a1; cases a1
  have hkeep : ∀ b x, H1 b = none → Hb b = some x → ∀ k, c.β b = some k → c1.w.heap[k]? = c.w.heap[k]? := by
    intro b x hb hx' k hk
    cases hl : x.live with
    | false => rw [hs.ded b x hx' hl] at hk; cases hk
    | true =>
      cases ho : x.own with
      | true => exact hx.old k ((hs.box b x hx').lt hl hk) (hnew b x hb hx' k hk hl ho)
      | false => exact (hx.le.imm k (hs.frz b x k hx' ho hl hk)).2
  have hnA : ∀ b x, H1 b = none → Hb b = some x → x.own = true → x.live = true → ∀ k, c.β b = some k → ¬ c1.A k := by
    intro b x hb hx' ho hl k hk hA
    rcases hx.imm k hA with h2 | h2 | h2
    · exact hs.sep b x k hx' ho hl hk h2
    · exact absurd ((hs.box b x hx').lt hl hk) (Nat.not_lt.2 h2)
    · exact hnew b x hb hx' k hk hl ho h2
  let c' : Cx := ⟨c1.w, c1.A, fun b => if (H1 b).isSome then c1.β b else c.β b, fun b => ((H1 b).or (Hb b)).map Box.gen⟩
  have hβ1 : ∀ b x, H1 b = some x → c'.β b = c1.β b := fun b x hb => by simp [c', hb]
  have hβ0 : ∀ b, H1 b = none → c'.β b = c.β b := fun b hb => by simp [c', hb]
  have hle1 : c1.Le c' := by
    refine ⟨fun k hk => ⟨hk, rfl⟩, fun b cur hb => ⟨cur, ?_, Nat.le_refl _, fun _ => ?_⟩⟩
    · rw [h1.gam b] at hb
      cases hh : H1 b with
      | none => simp [hh] at hb
      | some x => simpa [c', hh] using hb
    · rw [h1.gam b] at hb
      cases hh : H1 b with
      | none => simp [hh] at hb
      | some x => exact ⟨hβ1 b x hh, fun k cells e fr _ h3 => ⟨cells, fr, h3, rfl⟩⟩
  have hle : c.Le c' := by
    refine ⟨fun k hk => hx.le.imm k hk, fun b cur hb => ?_⟩
    cases hh : H1 b with
    | none =>
      rw [hs.gam b] at hb
      cases hh' : Hb b with
      | none => simp [hh'] at hb
      | some x =>
        refine ⟨cur, by simpa [c', hh] using hb, Nat.le_refl _, fun _ => ⟨hβ0 b hh, fun k cells e fr hk h3 => ⟨cells, fr, ?_, rfl⟩⟩⟩
        exact (hkeep b x hh hh' k hk).trans h3
    | some x =>
      cases hh' : H b with
      | none =>
        rcases hfresh r H1 hR b (by simp [hh]) with h2 | h2
        · simp [hh'] at h2
        · rw [hs.gam b, h2] at hb; cases hb
      | some y =>
        obtain ⟨cur', g1, g2, g3⟩ := hx.le.box b cur (by rw [← hb]; exact hγ b (by simp [hh']))
        refine ⟨cur', ?_, g2, fun he => ⟨(hβ1 b x hh).trans (g3 he).1, (g3 he).2⟩⟩
        rw [h1.gam b] at g1
        simpa [c', hh] using g1
  refine ⟨r, v, c', fun b => (H1 b).or (Hb b), rfl, rfl, ⟨H1, hR, rfl⟩, ⟨fun _ => rfl, fun b x hb => ?_, fun b b' x x' k hb hb' ho hl hl' hne hk hk' => ?_, fun b x k hb ho hl hk hA => ?_, fun b x k hb ho hl hk => ?_, h1.bnd, fun b x hb hl => ?_⟩, hr.mono hle1, ⟨hle, hx.os, hx.tape, hx.output, hx.size, fun k hk ho => hx.old k hk fun h2 => ho (hown k h2), fun k hk => ?_, fun k hk => ?_⟩⟩
  · cases hh : H1 b with
    | some y =>
      simp only [hh, Option.some_or, Option.some.injEq] at hb
      subst hb
      exact (h1.box b y hh).mono hle1 (hβ1 b y hh) fun _ _ => rfl
    | none =>
      simp only [hh, Option.none_or] at hb
      exact (hs.box b x hb).mono hle (hβ0 b hh) fun k hk => hkeep b x hh hb k hk
  · cases hh : H1 b with
    | some y =>
      simp only [hh, Option.some_or, Option.some.injEq] at hb
      subst hb
      rw [hβ1 b y hh] at hk
      cases hh' : H1 b' with
      | some y' =>
        simp only [hh', Option.some_or, Option.some.injEq] at hb'
        subst hb'
        rw [hβ1 b' y' hh'] at hk'
        exact h1.inj b b' y y' k hh hh' ho hl hl' hne hk hk'
      | none =>
        simp only [hh', Option.none_or] at hb'
        rw [hβ0 b' hh'] at hk'
        rcases hx.own k ⟨b, y, hh, ho, hl, hk⟩ with h2 | ⟨b0, x0, a1, a2, a3, a4⟩
        · exact absurd ((hs.box b' x' hb').lt hl' hk') (Nat.not_lt.2 h2)
        · refine hs.inj b0 b' x0 x' k (hsub _ _ a1) hb' a2 a3 hl' (fun e => ?_) a4 hk'
          subst e
          rw [hout b0 hh'] at a1; cases a1
    | none =>
      simp only [hh, Option.none_or] at hb
      rw [hβ0 b hh] at hk
      cases hh' : H1 b' with
      | some y' =>
        simp only [hh', Option.some_or, Option.some.injEq] at hb'
        subst hb'
        rw [hβ1 b' y' hh'] at hk'
        cases ho' : y'.own with
        | true =>
          rcases hx.own k ⟨b', y', hh', ho', hl', hk'⟩ with h2 | h2
          · exact absurd ((hs.box b x hb).lt hl hk) (Nat.not_lt.2 h2)
          · exact hnew b x hh hb k hk hl ho h2
        | false => exact hnA b x hh hb ho hl k hk (h1.frz b' y' k hh' ho' hl' hk')
      | none =>
        simp only [hh', Option.none_or] at hb'
        rw [hβ0 b' hh'] at hk'
        exact hs.inj b b' x x' k hb hb' ho hl hl' hne hk hk'
  · cases hh : H1 b with
    | some y =>
      simp only [hh, Option.some_or, Option.some.injEq] at hb
      subst hb
      rw [hβ1 b y hh] at hk
      exact h1.sep b y k hh ho hl hk hA
    | none =>
      simp only [hh, Option.none_or] at hb
      rw [hβ0 b hh] at hk
      exact hnA b x hh hb ho hl k hk hA
  · cases hh : H1 b with
    | some y =>
      simp only [hh, Option.some_or, Option.some.injEq] at hb
      subst hb
      rw [hβ1 b y hh] at hk
      exact h1.frz b y k hh ho hl hk
    | none =>
      simp only [hh, Option.none_or] at hb
      rw [hβ0 b hh] at hk
      exact (hx.le.imm k (hs.frz b x k hb ho hl hk)).1
  · cases hh : H1 b with
    | some y =>
      simp only [hh, Option.some_or, Option.some.injEq] at hb
      subst hb
      rw [hβ1 b y hh]
      exact h1.ded b y hh hl
    | none =>
      simp only [hh, Option.none_or] at hb
      rw [hβ0 b hh]
      exact hs.ded b x hb hl
  · rcases hx.imm k hk with h2 | h2 | h2
    · exact .inl h2
    · exact .inr (.inl h2)
    · exact .inr (.inr (hown k h2))
  · obtain ⟨b, x, hb, ho, hl, hk'⟩ := hk
    cases hh : H1 b with
    | some y =>
      simp only [hh, Option.some_or, Option.some.injEq] at hb
      subst hb
      rw [hβ1 b y hh] at hk'
      rcases hx.own k ⟨b, y, hh, ho, hl, hk'⟩ with h2 | h2
      · exact .inl h2
      · exact .inr (hown k h2)
    | none =>
      simp only [hh, Option.none_or] at hb
      rw [hβ0 b hh] at hk'
      exact .inr ⟨b, x, hb, ho, hl, hk'⟩

end Pv
namespace Pv
open Go

def St (c0 : Cx) (H0 : FH) (T : List PV) (H : FH) (a : Act) (w : World) : Prop :=
  ∃ c, c.w = w ∧ Sim c H ∧ Ext c0 H0 c H ∧ RelL c T a.tmps.toList ∧ a.defers = [] ∧ ∀ b, c0.γ b = (H0 b).map Box.gen

def pw (P : Program) (c0 : Cx) (H0 : FH) (cd : Code) (Q : Exit → PS → Prop) (st : PS) : Prop :=
  ∀ a w, St c0 H0 st.T (find st.H) a w → cd.wp P (fun e a' w' => ∃ st', Q e st' ∧ St c0 H0 st'.T (find st'.H) a' w') a w

section
variable {P : Program} {c0 : Cx} {H0 : FH} {Q : Exit → PS → Prop} {st : PS}

def thenP (K : PS → Prop) (Q : Exit → PS → Prop) : Exit → PS → Prop
  | .normal, st => K st
  | e, st => Q e st

theorem pw_seq {x y : Code} (h : pw P c0 H0 x (thenP (pw P c0 H0 y Q) Q) st) : pw P c0 H0 (.seq x y) Q st := by
  intro a w hs
  refine wp_seq (wp_mono (h a w hs) ?_)
  rintro e a' w' ⟨st', hq, hs'⟩
  cases e with
  | normal => exact hq a' w' hs'
  | _ => exact ⟨st', hq, hs'⟩

theorem pw_seq_k {x y : Code} (h : ∀ K : PS → Prop, (∀ st, pw P c0 H0 y Q st → K st) → pw P c0 H0 x (thenP K Q) st) : pw P c0 H0 (.seq x y) Q st :=
  pw_seq (h _ fun _ h => h)

theorem pw_skip (h : Q .normal st) : pw P c0 H0 .skip Q st := fun _ _ hs => wp_skip ⟨st, h, hs⟩
theorem pw_label {l : Nat} (h : Q .normal st) : pw P c0 H0 (.label l) Q st := fun _ _ hs => wp_label ⟨st, h, hs⟩
theorem pw_exit {id : Nat} (h : Q (.exit id) st) : pw P c0 H0 (.exit id) Q st := fun _ _ hs => wp_exit ⟨st, h, hs⟩
theorem pw_goto {l : Nat} (h : Q (.goto l) st) : pw P c0 H0 (.goto l) Q st := fun _ _ hs => wp_goto ⟨st, h, hs⟩
theorem pw_ret (h : Q .ret st) : pw P c0 H0 .ret Q st := fun _ _ hs => wp_ret ⟨st, h, hs⟩

theorem St.ofConst (c : Cx) (v : Value) : Rel c false (ofConst v) v := by
  have hsc : ∀ u : Value, Rel c false (ofScalar u) u := by
    intro u
    unfold ofScalar
    split <;> first | exact .bool _ | exact .int _ _ | exact .str _ | exact .nilp | exact .nils | exact .nilm | exact .nilf | exact .nili | exact .any _
  unfold Pv.ofConst
  split
  · refine .agg (by simp) fun i x v h1 h2 => ?_
    simp only [List.getElem?_map, Array.getElem?_toList, h2, Option.map_some, Option.some.injEq] at h1
    subst h1
    exact hsc v
  · exact .any _
  · exact hsc _

theorem ev_rel {c : Cx} {T : List PV} {a : Act} (hT : RelL c T a.tmps.toList) (o : Operand) : Rel c false (ev T o) (a.eval o) := by
  cases o with
  | tmp t =>
    simp only [ev, Act.eval, List.getD_eq_getElem?_getD, Array.getD_eq_getD_getElem?]
    cases h : T[t]? with
    | none =>
      have : a.tmps[t]? = none := by
        have h1 := hT.1
        simp only [Array.length_toList] at h1
        rw [Array.getElem?_eq_none_iff]; rw [List.getElem?_eq_none_iff] at h; omega
      simp only [this, Option.getD_none]
      exact .tup (by simp) fun i x v h1 => by simp at h1
    | some p =>
      have hlt : t < a.tmps.size := by
        have h1 := hT.1
        simp only [Array.length_toList] at h1
        have := (List.getElem?_eq_some_iff.1 h).1
        exact h1 ▸ this
      have h2 : a.tmps[t]? = some a.tmps[t] := Array.getElem?_eq_getElem hlt
      simp only [h2, Option.getD_some]
      exact hT.2 t p _ h (by simp)
  | const v => exact St.ofConst c v
  | global g => exact .addr _
  | func f => exact .clo (by simp) (fun i x v h1 => by simp at h1) (by simp) (fun i x v h1 => by simp at h1)

theorem Rel.bool_inv {c : Cx} {cl b : Bool} {v : Value} (h : Rel c cl (.bool b) v) : v = .bool b := by cases h; rfl
theorem Rel.int_inv {c : Cx} {cl : Bool} {k : IntKind} {n : Int} {v : Value} (h : Rel c cl (.int k n) v) : v = .int k n := by cases h; rfl
theorem Rel.str_inv {c : Cx} {cl : Bool} {s : ByteArray} {v : Value} (h : Rel c cl (.str s) v) : v = .string s := by cases h; rfl

theorem pw_cond {cnd : Operand} {x y : Code} (t : Bool) (hc : ev st.T cnd = .bool t) (ht : t = true → pw P c0 H0 x Q st) (hf : t = false → pw P c0 H0 y Q st) :
    pw P c0 H0 (.cond cnd x y) Q st := by
  intro a w hs
  have hs' := hs
  obtain ⟨c, rfl, h1, h2, h3, h4⟩ := hs
  have he := ev_rel h3 cnd
  rw [hc] at he
  exact wp_cond_split he.bool_inv (fun h => ht h a _ hs') (fun h => hf h a _ hs')

def inBlockP (id : Nat) (Q : Exit → PS → Prop) : Exit → PS → Prop
  | .exit id', st => if id' = id then Q .normal st else Q (.exit id') st
  | e, st => Q e st

theorem pw_block {id : Nat} {cd : Code} (h : pw P c0 H0 cd (inBlockP id Q) st) : pw P c0 H0 (.block id cd) Q st := by
  intro a w hs
  refine wp_block (wp_mono (h a w hs) ?_)
  rintro e a' w' ⟨st', hq, hs'⟩
  cases e with
  | exit id' =>
    simp only [inBlockP] at hq
    simp only [Exit.inBlock]
    split at hq
    · rename_i hh; subst hh; simp only [if_true]; exact ⟨st', hq, hs'⟩
    · rename_i hh; rw [if_neg hh]; exact ⟨st', hq, hs'⟩
  | _ => exact ⟨st', hq, hs'⟩

def Wk (H0 : FH) (st st' : PS) : Prop := ∀ (c0 : Cx) (a : Act) (w : World), St c0 H0 st.T (find st.H) a w → St c0 H0 st'.T (find st'.H) a w

theorem Wk.refl {H0 : FH} (st : PS) : Wk H0 st st := fun _ _ _ h => h
theorem Wk.trans {H0 : FH} {x y z : PS} (h : Wk H0 x y) (h' : Wk H0 y z) : Wk H0 x z := fun c0 a w hs => h' c0 a w (h c0 a w hs)

theorem pw_weak {cd : Code} {st' : PS} (hw : Wk H0 st st') (h : pw P c0 H0 cd Q st') : pw P c0 H0 cd Q st := fun a w hs => h a w (hw _ a w hs)

theorem pw_post {cd : Code} {Q' : Exit → PS → Prop} (h : pw P c0 H0 cd Q' st) (hq : ∀ e st, Q' e st → ∃ st', Wk H0 st st' ∧ Q e st') : pw P c0 H0 cd Q st := by
  intro a w hs
  refine wp_mono (h a w hs) ?_
  rintro e a' w' ⟨st1, h1, h2⟩
  obtain ⟨st2, h3, h4⟩ := hq e st1 h1
  exact ⟨st2, h4, h3 _ _ _ h2⟩

inductive Fg : List PV → List PV → Prop
  | nil : Fg [] []
  | any {x t t'} : Fg t t' → Fg (x :: t) (.any :: t')
  | same {x t t'} : Fg t t' → Fg (x :: t) (x :: t')

theorem Fg.relL {c : Cx} {T T' : List PV} (h : Fg T T') : ∀ {vs : List Value}, RelL c T vs → RelL c T' vs := by
  induction h with
  | nil => exact fun h => h
  | any _ ih =>
    intro vs h
    cases vs with
    | nil => simp [RelL] at h
    | cons v vs =>
      have ht : RelL c _ vs := ⟨by simpa using h.1, fun i p u a b => h.2 (i + 1) p u (by simpa using a) (by simpa using b)⟩
      exact (ih ht).cons (.any v)
  | same _ ih =>
    intro vs h
    cases vs with
    | nil => simp [RelL] at h
    | cons v vs =>
      have ht : RelL c _ vs := ⟨by simpa using h.1, fun i p u a b => h.2 (i + 1) p u (by simpa using a) (by simpa using b)⟩
      exact (ih ht).cons (h.2 0 _ v (by simp) (by simp))

theorem Wk.forget {H0 : FH} {T T' : List PV} {H : Heap} (h : Fg T T') : Wk H0 ⟨T, H⟩ ⟨T', H⟩ := by
  rintro c0 a w ⟨c, h1, h2, h3, h4, h5⟩
  exact ⟨c, h1, h2, h3, h.relL h4, h5⟩

theorem Wk.drop {H0 : FH} {T : List PV} {H H' : Heap} (hsub : ∀ b x, find H' b = some x → find H b = some x) (h0 : ∀ b, (H0 b).isSome = true → (find H' b).isSome = true)
    (hT : ∀ p ∈ T, p.within (fun b => (find H' b).isSome) = true) (hH : ∀ b x, find H' b = some x → x.body.within fun b => (find H' b).isSome) : Wk H0 ⟨T, H⟩ ⟨T, H'⟩ := by
  rintro c0 a w ⟨c, h1, h2, h3, h4, h5, h6⟩
  have hγ : ∀ b, (find H' b).isSome = true → (find H' b).map Box.gen = c.γ b := fun b hb => by
    obtain ⟨x, hx⟩ := Option.isSome_iff_exists.1 hb
    rw [h2.gam b, hx, hsub b x hx]
  refine ⟨{ c with γ := fun b => (find H' b).map Box.gen }, h1, ?_, ?_, ?_, h5, h6⟩
  · exact ⟨fun _ => rfl, fun b x hx => (h2.box b x (hsub b x hx)).narrow (S := fun b => (find H' b).isSome) hγ (hH b x hx),
     fun b b' x x' k hx hx' => h2.inj b b' x x' k (hsub _ _ hx) (hsub _ _ hx'), fun b x k hx => h2.sep b x k (hsub _ _ hx), fun b x k hx => h2.frz b x k (hsub _ _ hx), h2.bnd, fun b x hx => h2.ded b x (hsub _ _ hx)⟩
  · refine ⟨⟨h3.le.imm, fun b cur hb => ?_⟩, h3.os, h3.tape, h3.output, h3.size, h3.old, h3.imm, fun k ⟨b, x, g1, g2⟩ => h3.own k ⟨b, x, hsub _ _ g1, g2⟩⟩
    obtain ⟨cur', g1, g2, g3⟩ := h3.le.box b cur hb
    refine ⟨cur', ?_, g2, g3⟩
    show (find H' b).map Box.gen = some cur'
    rw [hγ b (h0 b (by rw [h6 b] at hb; cases hh : H0 b <;> simp_all))]
    exact g1
  · exact ⟨h4.1, fun i p v x y => (h4.2 i p v x y).narrow (S := fun b => (find H' b).isSome) hγ (hT p (List.mem_of_getElem? x))⟩

theorem pw_loop {cd : Code} (I : Nat → PS → Prop) (n : Nat) (h0 : ∃ st', Wk H0 st st' ∧ I n st')
    (round : ∀ n st, I n st → pw P c0 H0 cd (fun e st' => match e with | .normal => ∃ m st'', m < n ∧ Wk H0 st' st'' ∧ I m st'' | e => Q e st') st) :
    pw P c0 H0 (.loop cd) Q st := by
  intro a w hs b k cs
  have key : ∀ n st, I n st → ∀ a w, St c0 H0 st.T (find st.H) a w →
      ∃ e a' w', (∃ st', Q e st' ∧ St c0 H0 st'.T (find st'.H) a' w') ∧ Arrives P (lone (b.at a (.code cd :: .inLoop cd :: k)) cs w) b k cs e a' w' := by
    intro n
    induction n using Nat.strongRecOn with
    | _ n ih =>
      intro st hI a w hs
      obtain ⟨e, a₁, w₁, ⟨st1, hq, hs1⟩, harr⟩ := round n st hI a w hs b (.inLoop cd :: k) cs
      cases e with
      | normal =>
        obtain ⟨m, st2, hlt, hwk, hI2⟩ := hq
        obtain ⟨e₂, a₂, w₂, hq₂, harr₂⟩ := ih m hlt st2 hI2 a₁ w₁ (hwk _ _ _ hs1)
        exact ⟨e₂, a₂, w₂, hq₂, .of_steps (Steps.trans harr (.one step_inLoop)) harr₂⟩
      | exit id => exact ⟨_, a₁, w₁, ⟨st1, hq, hs1⟩, .pass (x := .inLoop cd) rfl (fun _ _ => .inl (by simp)) harr⟩
      | goto l => exact ⟨_, a₁, w₁, ⟨st1, hq, hs1⟩, .pass (x := .inLoop cd) rfl (fun _ _ => .inl (by simp)) harr⟩
      | ret => exact ⟨_, a₁, w₁, ⟨st1, hq, hs1⟩, .pass (x := .inLoop cd) rfl (fun _ _ => .inl (by simp)) harr⟩
      | panic ch => exact ⟨_, a₁, w₁, ⟨st1, hq, hs1⟩, .pass (x := .inLoop cd) rfl (fun _ _ => .inl (by simp)) harr⟩
      | outgrown => exact ⟨_, a₁, w₁, ⟨st1, hq, hs1⟩, .pass (x := .inLoop cd) rfl (fun _ _ => .inl (by simp)) harr⟩
  obtain ⟨st', hwk, hI⟩ := h0
  obtain ⟨e, a', w', hq, harr⟩ := key n st' hI a w (hwk _ _ _ hs)
  exact ⟨e, a', w', hq, .of_steps (.one step_loop) harr⟩

end
end Pv
namespace Pv
open Go

def upd (H : FH) : List (Nat × Box) → FH
  | [] => H
  | (k, x) :: t => upd (fun b => if b = k then some x else H b) t

theorem find_put (h : Heap) (k : Nat) (x : Box) : find (put h k x) = fun b => if b = k then some x else find h b := by
  funext b
  induction h with
  | nil =>
    by_cases e : b = k
    · subst e; simp [put, find]
    · have e' : ¬ k = b := fun e' => e e'.symm
      simp [put, find, e, e']
  | cons p t ih =>
    obtain ⟨i, y⟩ := p
    by_cases hi : i = k
    · subst hi
      by_cases e : b = i
      · subst e; simp [put, find]
      · have e' : ¬ i = b := fun e' => e e'.symm
        simp [put, find, e, e']
    · by_cases e : b = k
      · subst e
        simp [put, find, hi, ih]
      · by_cases e2 : i = b
        · subst e2; simp [put, find, hi]
        · simp [put, find, hi, e2, ih, e]

theorem find_puts (h : Heap) (l : List (Nat × Box)) : find (puts h l) = upd (find h) l := by
  induction l generalizing h with
  | nil => rfl
  | cons p t ih =>
    obtain ⟨k, x⟩ := p
    simp only [puts, upd]
    rw [ih, find_put]

section
variable {c : Cx} {H : FH}

theorem Sim.world (hs : Sim c H) (w' : World) (hh : ∀ k, k < c.w.heap.size → w'.heap[k]? = c.w.heap[k]?) (hz : c.w.heap.size ≤ w'.heap.size) (ho : w'.os = c.w.os) (ht : w'.tape = c.w.tape) (hu : w'.output = c.w.output) :
    Sim { c with w := w' } H ∧ Ext c H { c with w := w' } H := by
  have hle : c.Le { c with w := w' } := by
    refine ⟨fun k hk => ⟨hk, hh k (hs.bnd k hk)⟩, fun b cur hb => ⟨cur, hb, Nat.le_refl _, fun _ => ⟨rfl, fun k cells e fr hk hc => ⟨cells, fr, ?_, rfl⟩⟩⟩⟩
    exact (hh k (Array.getElem?_eq_some_iff.1 hc).1).trans hc
  refine ⟨⟨hs.gam, fun b x hb => ?_, hs.inj, hs.sep, hs.frz, fun k hk => Nat.lt_of_lt_of_le (hs.bnd k hk) hz, hs.ded⟩, ⟨hle, ho, ht, hu, hz, fun k hk _ => hh k hk, fun k hk => .inl hk, fun k hk => .inr hk⟩⟩
  cases hl : x.live with
  | false =>
    have : x.body = .dead := by unfold Box.live at hl; cases hx : x.body <;> simp_all
    simp [BoxRel, this]
  | true => exact (hs.box b x hb).mono hle rfl fun k hk => hh k ((hs.box b x hb).lt hl hk)

theorem Sim.write (hs : Sim c H) {b : Nat} {x : Box} (hb : H b = some x) (ho : x.own = true) (hl : x.live = true) {k : Nat} (hk : c.β b = some k) {cells cells' : Array Value} {e : TypeId}
    (hh : c.w.heap[k]? = some (.cells cells e (0, 0))) (hz : cells'.size = cells.size) (g' : Nat) (hg : x.gen ≤ g') {s : Nat} {xs' : List PV} (h1 : xs'.length * s ≤ cells.size)
    (h2 : ∀ (i : Nat) y, xs'[i]? = some y → y.cells.length = s)
    (h3 : ∀ (i : Nat) y (j : Nat) p v, xs'[i]? = some y → y.cells[j]? = some p → cells'[i * s + j]? = some v → v.oneCell' = true ∧ Rel c false p v) :
    ∃ c', c'.w = c.w.setRow k cells' ∧ c'.β = c.β ∧ c'.γ b = some g' ∧ c.Le c' ∧ Sim c' (upd H [(b, ⟨g', true, .arr s xs'⟩)]) ∧ Ext c H c' (upd H [(b, ⟨g', true, .arr s xs'⟩)]) := by
  let c' : Cx := { c with w := c.w.setRow k cells', γ := fun i => if i = b then some g' else c.γ i }
  have hnew : c'.w.heap[k]? = some (.cells cells' e (0, 0)) := setRow_heap c.w k cells cells' e (0, 0) hh
  have hoth : ∀ k', k' ≠ k → c'.w.heap[k']? = c.w.heap[k']? := fun k' h => setRow_other c.w k k' cells' h
  have hsz : c'.w.heap.size = c.w.heap.size := by simp [c', World.setRow]
  have hle : c.Le c' := by
    refine ⟨fun k' hk' => ⟨hk', hoth k' fun e => hs.sep b x k hb ho hl hk (e ▸ hk')⟩, fun i cur hi => ?_⟩
    by_cases hib : i = b
    · subst hib
      rw [hs.gam i, hb] at hi
      simp only [Option.map_some, Option.some.injEq] at hi
      subst hi
      refine ⟨g', by simp [c'], hg, fun _ => ⟨rfl, fun k1 cells1 e1 fr1 hk1 hc1 => ?_⟩⟩
      rw [hk] at hk1; cases hk1
      rw [hh] at hc1; cases hc1
      exact ⟨cells', (0, 0), hnew, hz⟩
    · refine ⟨cur, by simp [c', hib, hi], Nat.le_refl _, fun _ => ⟨rfl, fun k1 cells1 e1 fr1 hk1 hc1 => ?_⟩⟩
      by_cases hkk : k1 = k
      · subst hkk
        rw [hh] at hc1; cases hc1
        exact ⟨cells', (0, 0), hnew, hz⟩
      · exact ⟨cells1, fr1, (hoth k1 hkk).trans hc1, rfl⟩
  have hlive : Box.live ⟨g', true, .arr s xs'⟩ = true := rfl
  refine ⟨c', rfl, rfl, by simp [c'], hle, ⟨fun i => ?_, fun i y hi => ?_, fun i i' y y' k1 hi hi' ho1 hl1 hl1' hne hk1 => ?_, fun i y k1 hi ho1 hl1 hk1 => ?_, fun i y k1 hi ho1 hl1 hk1 => ?_, fun k1 hk1 => ?_, fun i y hi hl1 => ?_⟩, ⟨hle, rfl, rfl, rfl, by omega, fun k1 _ ho1 => ?_, fun k1 hk1 => .inl hk1, fun k1 hk1 => ?_⟩⟩
  · simp only [upd, c']
    by_cases hib : i = b
    · simp [hib]
    · simp [hib, hs.gam i]
  · simp only [upd] at hi
    by_cases hib : i = b
    · subst hib
      simp only [if_true, Option.some.injEq] at hi
      subst hi
      refine .inl ⟨k, hk, ⟨cells', e, (0, 0), hnew, fun _ => rfl, by omega, h2, fun i y j p v a1 a2 a3 => ?_⟩⟩
      exact ⟨(h3 i y j p v a1 a2 a3).1, (h3 i y j p v a1 a2 a3).2.mono hle⟩
    · simp only [hib, if_false] at hi
      cases hl1 : y.live with
      | false =>
        have : y.body = .dead := by unfold Box.live at hl1; cases hx : y.body <;> simp_all
        simp [BoxRel, this]
      | true =>
        refine (hs.box i y hi).mono hle rfl fun k1 hk1 => hoth k1 fun e => ?_
        subst e
        exact hs.inj b i x y k1 hb hi ho hl hl1 (fun e => hib e.symm) hk hk1
  · simp only [upd] at hi hi'
    by_cases hib : i = b
    · subst hib
      have hne' : ¬ i' = i := fun e => hne e.symm
      simp only [hne', if_false] at hi'
      exact hs.inj i i' x y' k1 hb hi' ho hl hl1' hne hk1
    · simp only [hib, if_false] at hi
      by_cases hib' : i' = b
      · subst hib'
        exact hs.inj i i' y x k1 hi hb ho1 hl1 hl hne hk1
      · simp only [hib', if_false] at hi'
        exact hs.inj i i' y y' k1 hi hi' ho1 hl1 hl1' hne hk1
  · simp only [upd] at hi
    by_cases hib : i = b
    · subst hib
      exact hs.sep i x k1 hb ho hl hk1
    · simp only [hib, if_false] at hi
      exact hs.sep i y k1 hi ho1 hl1 hk1
  · simp only [upd] at hi
    by_cases hib : i = b
    · subst hib
      simp only [if_true, Option.some.injEq] at hi
      subst hi
      simp at ho1
    · simp only [hib, if_false] at hi
      exact hs.frz i y k1 hi ho1 hl1 hk1
  · have := hs.bnd k1 hk1
    omega
  · simp only [upd] at hi
    by_cases hib : i = b
    · subst hib
      simp only [if_true, Option.some.injEq] at hi
      subst hi
      simp [Box.live] at hl1
    · simp only [hib, if_false] at hi
      exact hs.ded i y hi hl1
  · exact hoth k1 fun e => ho1 ⟨b, x, hb, ho, hl, e ▸ hk⟩
  · obtain ⟨i, y, hi, ho1, hl1, hk1⟩ := hk1
    simp only [upd] at hi
    by_cases hib : i = b
    · subst hib
      exact .inr ⟨i, x, hb, ho, hl, hk1⟩
    · simp only [hib, if_false] at hi
      exact .inr ⟨i, y, hi, ho1, hl1, hk1⟩

theorem Sim.fresh (hs : Sim c H) (b g' : Nat) (hg : ∀ x, H b = some x → x.gen < g') {w' : World} {cells : Array Value} {e : TypeId} (hw : w'.heap = c.w.heap.push (.cells cells e (0, 0)))
    (ho : w'.os = c.w.os) (ht : w'.tape = c.w.tape) (hu : w'.output = c.w.output) {s : Nat} {xs' : List PV} (h1 : xs'.length * s ≤ cells.size)
    (h2 : ∀ (i : Nat) y, xs'[i]? = some y → y.cells.length = s)
    (h3 : ∀ (i : Nat) y (j : Nat) p v, xs'[i]? = some y → y.cells[j]? = some p → cells[i * s + j]? = some v → v.oneCell' = true ∧ Rel c false p v) :
    ∃ c', c'.w = w' ∧ c'.β b = some c.w.heap.size ∧ c'.γ b = some g' ∧ c.Le c' ∧ Sim c' (upd H [(b, ⟨g', true, .arr s xs'⟩)]) ∧ Ext c H c' (upd H [(b, ⟨g', true, .arr s xs'⟩)]) := by
  let c' : Cx := ⟨w', c.A, fun i => if i = b then some c.w.heap.size else c.β i, fun i => if i = b then some g' else c.γ i⟩
  have hnew : c'.w.heap[c.w.heap.size]? = some (.cells cells e (0, 0)) := by show w'.heap[c.w.heap.size]? = _; rw [hw]; simp
  have hoth : ∀ k', k' < c.w.heap.size → c'.w.heap[k']? = c.w.heap[k']? := fun k' h => by
    show w'.heap[k']? = _
    rw [hw, Array.getElem?_push, if_neg (by omega)]
  have hsz : c'.w.heap.size = c.w.heap.size + 1 := by show w'.heap.size = _; rw [hw]; simp
  have hle : c.Le c' := by
    refine ⟨fun k' hk' => ⟨hk', hoth k' (hs.bnd k' hk')⟩, fun i cur hi => ?_⟩
    by_cases hib : i = b
    · subst hib
      rw [hs.gam i] at hi
      cases hx : H i with
      | none => simp [hx] at hi
      | some x =>
        simp only [hx, Option.map_some, Option.some.injEq] at hi
        have := hg x hx
        exact ⟨g', by simp [c'], by omega, fun h => by omega⟩
    · refine ⟨cur, by simp [c', hib, hi], Nat.le_refl _, fun _ => ⟨by simp [c', hib], fun k1 cells1 e1 fr1 hk1 hc1 => ?_⟩⟩
      exact ⟨cells1, fr1, (hoth k1 (Array.getElem?_eq_some_iff.1 hc1).1).trans hc1, rfl⟩
  have hβ : ∀ i, i ≠ b → c'.β i = c.β i := fun i h => by simp [c', h]
  refine ⟨c', rfl, by simp [c'], by simp [c'], hle, ⟨fun i => ?_, fun i y hi => ?_, fun i i' y y' k1 hi hi' ho1 hl1 hl1' hne hk1 hk1' => ?_, fun i y k1 hi ho1 hl1 hk1 hA => ?_, fun i y k1 hi ho1 hl1 hk1 => ?_, fun k1 hk1 => ?_, fun i y hi hl1 => ?_⟩, ⟨hle, ho, ht, hu, by omega, fun k1 hk1 _ => hoth k1 hk1, fun k1 hk1 => .inl hk1, fun k1 hk1 => ?_⟩⟩
  · simp only [upd, c']
    by_cases hib : i = b
    · simp [hib]
    · simp [hib, hs.gam i]
  · simp only [upd] at hi
    by_cases hib : i = b
    · subst hib
      simp only [if_true, Option.some.injEq] at hi
      subst hi
      refine .inl ⟨c.w.heap.size, by simp [c'], ⟨cells, e, (0, 0), hnew, fun _ => rfl, h1, h2, fun i y j p v a1 a2 a3 => ?_⟩⟩
      exact ⟨(h3 i y j p v a1 a2 a3).1, (h3 i y j p v a1 a2 a3).2.mono hle⟩
    · simp only [hib, if_false] at hi
      cases hl1 : y.live with
      | false =>
        have : y.body = .dead := by unfold Box.live at hl1; cases hx : y.body <;> simp_all
        simp [BoxRel, this]
      | true => exact (hs.box i y hi).mono hle (hβ i hib) fun k1 hk1 => hoth k1 ((hs.box i y hi).lt hl1 hk1)
  · simp only [upd] at hi hi'
    by_cases hib : i = b
    · subst hib
      have hne' : ¬ i' = i := fun e => hne e.symm
      simp only [hne', if_false] at hi'
      rw [hβ i' hne'] at hk1'
      have := (hs.box i' y' hi').lt hl1' hk1'
      simp only [c', if_true, Option.some.injEq] at hk1
      omega
    · simp only [hib, if_false] at hi
      rw [hβ i hib] at hk1
      have h5 := (hs.box i y hi).lt hl1 hk1
      by_cases hib' : i' = b
      · subst hib'
        simp only [c', if_true, Option.some.injEq] at hk1'
        omega
      · simp only [hib', if_false] at hi'
        rw [hβ i' hib'] at hk1'
        exact hs.inj i i' y y' k1 hi hi' ho1 hl1 hl1' hne hk1 hk1'
  · simp only [upd] at hi
    by_cases hib : i = b
    · subst hib
      simp only [c', if_true, Option.some.injEq] at hk1
      have := hs.bnd k1 hA
      omega
    · simp only [hib, if_false] at hi
      rw [hβ i hib] at hk1
      exact hs.sep i y k1 hi ho1 hl1 hk1 hA
  · simp only [upd] at hi
    by_cases hib : i = b
    · subst hib
      simp only [if_true, Option.some.injEq] at hi
      subst hi
      simp at ho1
    · simp only [hib, if_false] at hi
      rw [hβ i hib] at hk1
      exact hs.frz i y k1 hi ho1 hl1 hk1
  · have := hs.bnd k1 hk1
    omega
  · simp only [upd] at hi
    by_cases hib : i = b
    · subst hib
      simp only [if_true, Option.some.injEq] at hi
      subst hi
      simp [Box.live] at hl1
    · simp only [hib, if_false] at hi
      rw [hβ i hib]
      exact hs.ded i y hi hl1
  · obtain ⟨i, y, hi, ho1, hl1, hk1⟩ := hk1
    simp only [upd] at hi
    by_cases hib : i = b
    · subst hib
      simp only [c', if_true, Option.some.injEq] at hk1
      exact .inl (by omega)
    · simp only [hib, if_false] at hi
      rw [hβ i hib] at hk1
      exact .inr ⟨i, y, hi, ho1, hl1, hk1⟩

theorem Sim.virt (hs : Sim c H) (b g' : Nat) (hg : ∀ x, H b = some x → x.gen < g') (x' : Box) (hx' : x'.gen = g') (hb' : (∃ s, x'.body = .arr s []) ∨ x'.body = .dead) :
    ∃ c', c'.w = c.w ∧ c'.γ b = some g' ∧ c.Le c' ∧ Sim c' (upd H [(b, x')]) ∧ Ext c H c' (upd H [(b, x')]) := by
  let c' : Cx := ⟨c.w, c.A, fun i => if i = b then none else c.β i, fun i => if i = b then some g' else c.γ i⟩
  have hle : c.Le c' := by
    refine ⟨fun k' hk' => ⟨hk', rfl⟩, fun i cur hi => ?_⟩
    by_cases hib : i = b
    · subst hib
      rw [hs.gam i] at hi
      cases hx : H i with
      | none => simp [hx] at hi
      | some x =>
        simp only [hx, Option.map_some, Option.some.injEq] at hi
        have := hg x hx
        exact ⟨g', by simp [c'], by omega, fun h => by omega⟩
    · exact ⟨cur, by simp [c', hib, hi], Nat.le_refl _, fun _ => ⟨by simp [c', hib], fun k1 cells1 e1 fr1 hk1 hc1 => ⟨cells1, fr1, hc1, rfl⟩⟩⟩
  have hβ : ∀ i, i ≠ b → c'.β i = c.β i := fun i h => by simp [c', h]
  have hβb : c'.β b = none := by simp [c']
  refine ⟨c', rfl, by simp [c'], hle, ⟨fun i => ?_, fun i y hi => ?_, fun i i' y y' k1 hi hi' ho1 hl1 hl1' hne hk1 hk1' => ?_, fun i y k1 hi ho1 hl1 hk1 hA => ?_, fun i y k1 hi ho1 hl1 hk1 => ?_, hs.bnd, fun i y hi hl1 => ?_⟩, ⟨hle, rfl, rfl, rfl, Nat.le_refl _, fun k1 hk1 _ => rfl, fun k1 hk1 => .inl hk1, fun k1 hk1 => ?_⟩⟩
  · simp only [upd, c']
    by_cases hib : i = b
    · simp [hib, hx']
    · simp [hib, hs.gam i]
  · simp only [upd] at hi
    by_cases hib : i = b
    · subst hib
      simp only [if_true, Option.some.injEq] at hi
      subst hi
      rcases hb' with ⟨s, hb'⟩ | hb'
      · simp only [BoxRel, hb']
        exact .inr ⟨trivial, hβb⟩
      · simp [BoxRel, hb']
    · simp only [hib, if_false] at hi
      exact (hs.box i y hi).mono hle (hβ i hib) fun k1 hk1 => rfl
  · simp only [upd] at hi hi'
    by_cases hib : i = b
    · subst hib; rw [hβb] at hk1; cases hk1
    · by_cases hib' : i' = b
      · subst hib'; rw [hβb] at hk1'; cases hk1'
      · simp only [hib, hib', if_false] at hi hi'
        rw [hβ i hib] at hk1
        rw [hβ i' hib'] at hk1'
        exact hs.inj i i' y y' k1 hi hi' ho1 hl1 hl1' hne hk1 hk1'
  · simp only [upd] at hi
    by_cases hib : i = b
    · subst hib; rw [hβb] at hk1; cases hk1
    · simp only [hib, if_false] at hi
      rw [hβ i hib] at hk1
      exact hs.sep i y k1 hi ho1 hl1 hk1 hA
  · simp only [upd] at hi
    by_cases hib : i = b
    · subst hib; rw [hβb] at hk1; cases hk1
    · simp only [hib, if_false] at hi
      rw [hβ i hib] at hk1
      exact hs.frz i y k1 hi ho1 hl1 hk1
  · simp only [upd] at hi
    by_cases hib : i = b
    · subst hib; exact hβb
    · simp only [hib, if_false] at hi
      rw [hβ i hib]
      exact hs.ded i y hi hl1
  · obtain ⟨i, y, hi, ho1, hl1, hk1⟩ := hk1
    simp only [upd] at hi
    by_cases hib : i = b
    · subst hib; rw [hβb] at hk1; cases hk1
    · simp only [hib, if_false] at hi
      rw [hβ i hib] at hk1
      exact .inr ⟨i, y, hi, ho1, hl1, hk1⟩

theorem Sim.freeze (hs : Sim c H) {b : Nat} {x : Box} (hb : H b = some x) :
    ∃ c', c'.w = c.w ∧ c'.γ = c.γ ∧ c'.β = c.β ∧ (∀ k, x.live = true → c.β b = some k → c'.A k) ∧ c.Le c' ∧ Sim c' (upd H [(b, { x with own := false })]) ∧ Ext c H c' (upd H [(b, { x with own := false })]) := by
  let c' : Cx := { c with A := fun k => c.A k ∨ (x.live = true ∧ c.β b = some k) }
  have hle : c.Le c' := ⟨fun k' hk' => ⟨.inl hk', rfl⟩, fun i cur hi => ⟨cur, hi, Nat.le_refl _, fun _ => ⟨rfl, fun k1 cells1 e1 fr1 _ hc1 => ⟨cells1, fr1, hc1, rfl⟩⟩⟩⟩
  refine ⟨c', rfl, rfl, rfl, fun k h1 h2 => .inr ⟨h1, h2⟩, hle, ⟨fun i => ?_, fun i y hi => ?_, fun i i' y y' k1 hi hi' ho1 hl1 hl1' hne hk1 hk1' => ?_, fun i y k1 hi ho1 hl1 hk1 hA => ?_, fun i y k1 hi ho1 hl1 hk1 => ?_, fun k1 hk1 => ?_, fun i y hi hl1 => ?_⟩, ⟨hle, rfl, rfl, rfl, Nat.le_refl _, fun k1 hk1 _ => rfl, fun k1 hk1 => ?_, fun k1 hk1 => ?_⟩⟩
  · simp only [upd, c']
    by_cases hib : i = b
    · subst hib; simp [hs.gam i, hb]
    · simp [hib, hs.gam i]
  · simp only [upd] at hi
    by_cases hib : i = b
    · subst hib
      simp only [if_true, Option.some.injEq] at hi
      subst hi
      have h5 := (hs.box i x hb).mono (c' := c') hle rfl fun _ _ => rfl
      unfold BoxRel at h5 ⊢
      simp only at h5 ⊢
      split at h5
      · trivial
      · rcases h5 with ⟨k, a1, a2⟩ | a1
        · obtain ⟨cells, e, fr, g1, _, g3⟩ := a2.ex
          exact .inl ⟨k, a1, ⟨cells, e, fr, g1, fun h => by simp at h, g3⟩⟩
        · exact .inr a1
      · exact h5
    · simp only [hib, if_false] at hi
      exact (hs.box i y hi).mono hle rfl fun k1 hk1 => rfl
  · simp only [upd] at hi hi'
    by_cases hib : i = b
    · subst hib
      simp only [if_true, Option.some.injEq] at hi
      subst hi
      simp at ho1
    · simp only [hib, if_false] at hi
      by_cases hib' : i' = b
      · subst hib'
        simp only [if_true, Option.some.injEq] at hi'
        subst hi'
        exact hs.inj i i' y x k1 hi hb ho1 hl1 hl1' hne hk1 hk1'
      · simp only [hib', if_false] at hi'
        exact hs.inj i i' y y' k1 hi hi' ho1 hl1 hl1' hne hk1 hk1'
  · simp only [upd] at hi
    by_cases hib : i = b
    · subst hib
      simp only [if_true, Option.some.injEq] at hi
      subst hi
      simp at ho1
    · simp only [hib, if_false] at hi
      rcases hA with hA | ⟨hA1, hA2⟩
      · exact hs.sep i y k1 hi ho1 hl1 hk1 hA
      · exact hs.inj i b y x k1 hi hb ho1 hl1 hA1 hib hk1 hA2
  · simp only [upd] at hi
    by_cases hib : i = b
    · subst hib
      simp only [if_true, Option.some.injEq] at hi
      subst hi
      exact .inr ⟨hl1, hk1⟩
    · simp only [hib, if_false] at hi
      exact .inl (hs.frz i y k1 hi ho1 hl1 hk1)
  · rcases hk1 with hk1 | ⟨h1, h2⟩
    · exact hs.bnd k1 hk1
    · exact (hs.box b x hb).lt h1 h2
  · simp only [upd] at hi
    by_cases hib : i = b
    · subst hib
      simp only [if_true, Option.some.injEq] at hi
      subst hi
      exact hs.ded i x hb hl1
    · simp only [hib, if_false] at hi
      exact hs.ded i y hi hl1
  · rcases hk1 with hk1 | ⟨h1, h2⟩
    · exact .inl hk1
    · cases ho : x.own with
      | true => exact .inr (.inr ⟨b, x, hb, ho, h1, h2⟩)
      | false => exact .inl (hs.frz b x k1 hb ho h1 h2)
  · obtain ⟨i, y, hi, ho1, hl1, hk1⟩ := hk1
    simp only [upd] at hi
    by_cases hib : i = b
    · subst hib
      simp only [if_true, Option.some.injEq] at hi
      subst hi
      simp at ho1
    · simp only [hib, if_false] at hi
      exact .inr ⟨i, y, hi, ho1, hl1, hk1⟩

end
end Pv
namespace Pv
open Go

def OpOk (c : Cx) (H : FH) (run : Result Next) (r : Res) : Prop :=
  ∃ nx v c', run = .ok nx c'.w ∧ (nx = .value v ∨ (nx = .skip ∧ v = undef)) ∧ Rel c' false r.v v ∧ Sim c' (upd H r.wr) ∧ Ext c H c' (upd H r.wr)

section
variable {P : Program} {c : Cx} {H : FH}

theorem OpOk.pure (hs : Sim c H) {run : Result Next} {r : Res} {v : Value} (h : run = .ok (.value v) c.w) (hr : Rel c false r.v v) (hw : r.wr = []) : OpOk c H run r :=
  ⟨_, v, c, h, .inl rfl, hr, by rw [hw]; exact hs, by rw [hw]; exact .refl c H⟩

theorem tyI_inv {t : TypeId} {ti : TI} (h : tyI P t = some ti) : ∃ i d, P.info? t = some i ∧ P.underlying t = some d ∧
    ti.agg = isAggD d ∧ ti.size = i.size ∧ ti.bytes = i.bytes ∧ ti.zero = (i.zero.map ofConst).getD .any := by
  unfold tyI at h
  split at h
  · rename_i i d h1 h2
    simp only [Option.some.injEq] at h
    subst h
    exact ⟨i, d, h1, h2, rfl, rfl, rfl, rfl⟩
  · cases h

theorem cellsOf_info {t : TypeId} {i : TypeInfo} (h : P.info? t = some i) : P.cellsOf t = i.size := by simp [Program.cellsOf, h]

theorem run_sizeOf' {t : TypeId} {i : TypeInfo} (h : P.info? t = some i) (w : World) : (Go.sizeOf t).run P w = Result.ok i.size w := by simp [Go.sizeOf, typeInfo, h]
theorem run_typeInfo' {t : TypeId} {i : TypeInfo} (h : P.info? t = some i) (w : World) : (typeInfo t).run P w = .ok i w := by simp [typeInfo, h]
theorem run_zeroValue' {t : TypeId} {i : TypeInfo} {z : Value} (h : P.info? t = some i) (hz : i.zero = some z) (w : World) : (zeroValue t).run P w = .ok z w := by simp [zeroValue, typeInfo, h, hz]

theorem run_isAgg' {t : TypeId} {d : TypeDesc} (h : P.underlying t = some d) (w : World) :
    (isAgg t).run P w = Result.ok (isAggD d) w := by
  unfold isAgg
  rw [Sem.run_bind, run_underlying h w]
  cases d <;> rfl

theorem fldI_inv {t : TypeId} {f off : Nat} {ft : TypeId} (h : fldI P t f = some (off, ft)) : ∃ fs x, P.underlying t = some (.struct fs) ∧ fs[f]? = some x ∧ x.offset = off ∧ x.type = ft ∧ P.cellsOf ft ≠ 0 := by
  unfold fldI at h
  split at h
  · rename_i fs h1
    cases hx : fs[f]? with
    | none => simp [hx] at h
    | some x =>
      simp only [hx, Option.bind_some] at h
      split at h
      · cases h
      · rename_i hne
        simp only [Option.some.injEq, Prod.mk.injEq] at h
        exact ⟨fs, x, h1, hx, h.1, h.2, by rw [← h.2]; exact hne⟩
  · cases h

theorem cellsOf_ne {t : TypeId} (h : P.cellsOf t ≠ 0) : ∃ i, P.info? t = some i ∧ i.size ≠ 0 := by
  unfold Program.cellsOf at h
  cases hi : P.info? t with
  | none => simp [hi] at h
  | some i => exact ⟨i, rfl, by simpa [hi] using h⟩

theorem Rel.ptr_inv {cl : Bool} {b g s i o : Nat} {v : Value} (hs : Sim c H) (h : Rel c cl (.ptr b g s i o) v) (hc : cur H b g = true) : ∃ k, c.β b = some k ∧ v = .pointer (some ⟨k, i * s + o, none⟩) := by
  cases h with
  | ptr cur h1c hcur hle hv =>
    rw [hs.gam b] at hcur
    unfold Pv.cur at hc
    cases hx : H b with
    | none => simp [hx] at hc
    | some x =>
      simp only [hx, Option.map_some, Option.some.injEq] at hcur
      simp only [hx, beq_iff_eq] at hc
      exact hv (by omega)

theorem Rel.bsl_inv {cl : Bool} {b g s i n : Nat} {v : Value} (hs : Sim c H) (h : Rel c cl (.bsl b g s i n) v) (hc : cur H b g = true) :
    (∃ k cells e fr cap, c.β b = some k ∧ c.w.heap[k]? = some (.cells cells e fr) ∧ v = .slice (some ⟨k, i * s, none⟩) n cap ∧ n ≤ cap ∧ (i + cap) * s ≤ cells.size) ∨ (n = 0 ∧ ∃ a, v = .slice a 0 0) := by
  cases h with
  | bsl cur h1c hcur hle hv =>
    rw [hs.gam b] at hcur
    unfold Pv.cur at hc
    cases hx : H b with
    | none => simp [hx] at hc
    | some x =>
      simp only [hx, Option.map_some, Option.some.injEq] at hcur
      simp only [hx, beq_iff_eq] at hc
      exact hv (by omega)

theorem Rel.ptr_mk (hs : Sim c H) {b g s i o k : Nat} (hc : cur H b g = true) (hk : c.β b = some k) : Rel c false (.ptr b g s i o) (.pointer (some ⟨k, i * s + o, none⟩)) := by
  unfold Pv.cur at hc
  cases hx : H b with
  | none => simp [hx] at hc
  | some x =>
    simp only [hx, beq_iff_eq] at hc
    exact .ptr g rfl (by rw [hs.gam b, hx]; simp [hc]) (Nat.le_refl _) fun _ => ⟨k, hk, rfl⟩

theorem Rel.bsl_mk (hs : Sim c H) {b g s i n : Nat} {v : Value} (hc : cur H b g = true)
    (hv : (∃ k cells e fr cap, c.β b = some k ∧ c.w.heap[k]? = some (.cells cells e fr) ∧ v = .slice (some ⟨k, i * s, none⟩) n cap ∧ n ≤ cap ∧ (i + cap) * s ≤ cells.size) ∨ (n = 0 ∧ ∃ a, v = .slice a 0 0)) :
    Rel c false (.bsl b g s i n) v := by
  unfold Pv.cur at hc
  cases hx : H b with
  | none => simp [hx] at hc
  | some x =>
    simp only [hx, beq_iff_eq] at hc
    exact .bsl g (by rcases hv with ⟨_, _, _, _, _, _, _, rfl, _⟩ | ⟨_, _, rfl⟩ <;> rfl) (by rw [hs.gam b, hx]; simp [hc]) (Nat.le_refl _) fun _ => hv

theorem ok_fieldAddr (hs : Sim c H) {t f : Nat} {x : PV} {v : Value} (hx : Rel c false x v) {r : Res} (h : sFieldAddr P H t x f = some r) :
    OpOk c H (((do pure (Next.value (← Instr.fieldAt t v f))) : Sem Next).run P c.w) r := by
  unfold sFieldAddr at h
  split at h
  · rename_i off ft b g s i p hf
    obtain ⟨fs, fl, h1, h2, h3, h4, h5⟩ := fldI_inv hf
    obtain ⟨inf, h6, h7⟩ := cellsOf_ne h5
    split at h
    · rename_i hc
      simp only [Option.some.injEq] at h
      subst h
      obtain ⟨k, hk, rfl⟩ := hx.ptr_inv hs hc
      refine .pure hs (v := .pointer (some ⟨k, i * s + (p + off), none⟩)) ?_ (Rel.ptr_mk hs hc hk) rfl
      subst h4
      simp [Instr.fieldAt, run_underlying h1, h2, Instr.sureAddr, fieldPlace, run_sizeOf' h6, h7, Addr.add_lit, h3, Nat.add_assoc]
    · cases h
  · rename_i off ft s xs i p hf
    obtain ⟨fs, fl, h1, h2, h3, h4, h5⟩ := fldI_inv hf
    obtain ⟨inf, h6, h7⟩ := cellsOf_ne h5
    simp only [Option.some.injEq] at h
    subst h
    cases hx with
    | ept _ _ k o cells e fr hA hh hsz hss h1' h2' =>
      refine .pure hs (v := .pointer (some ⟨k, o + i * s + (p + off), none⟩)) ?_ (.ept i (p + off) k o cells e fr hA hh hsz hss h1' h2') rfl
      subst h4
      simp [Instr.fieldAt, run_underlying h1, h2, Instr.sureAddr, fieldPlace, run_sizeOf' h6, h7, Addr.add_lit, h3, Nat.add_assoc]
  · cases h

theorem run_loadE {t : TypeId} {ti : TI} (ht : tyI P t = some ti) {k B : Nat} {cells : Array Value} {e : TypeId} {fr : Nat × Nat} (hh : c.w.heap[k]? = some (.cells cells e fr)) {x : PV} {cl : Bool}
    (hsz : B + x.cells.length ≤ cells.size) (hr : ∀ (j : Nat) y v, x.cells[j]? = some y → cells[B + j]? = some v → Rel c cl y v) {p : Nat} {r : PV} (h : loadE ti.agg ti.size x p = some r) :
    ∃ v, (loadVar t ⟨k, B + p, none⟩).run P c.w = .ok v c.w ∧ Rel c cl r v := by
  obtain ⟨i, d, h1, h2, h3, h4, _⟩ := tyI_inv ht
  unfold loadE at h
  cases hagg : ti.agg with
  | true =>
    simp only [hagg, if_true] at h
    split at h
    · rename_i hle
      simp only [Option.some.injEq] at h
      subst h
      have hl := run_loadCells_list (P := P) c.w ⟨k, B + p, none⟩ ((cells.toList.drop (B + p)).take ti.size) (fun j v hv => by
        rw [Addr.add_lit, cell_of_row c.w k _ cells e fr hh]
        rw [List.getElem?_take] at hv
        split at hv
        · rw [List.getElem?_drop] at hv
          simpa using hv
        · cases hv)
      have hlen : ((cells.toList.drop (B + p)).take ti.size).length = ti.size := by simp; omega
      rw [hlen] at hl
      refine ⟨.agg ((cells.toList.drop (B + p)).take ti.size).toArray, ?_, .agg (by simp; omega) fun j y v hy hv => ?_⟩
      · have ha : (isAgg t).run P c.w = .ok true c.w := by rw [run_isAgg' h2, ← h3, hagg]
        simp [loadVar, ha, run_sizeOf' h1, ← h4, hl]
      · simp only [List.getElem?_take] at hy
        simp only [List.getElem?_toArray, List.getElem?_take] at hv
        split at hy
        · rename_i hj
          rw [if_pos hj, List.getElem?_drop] at hv
          rw [List.getElem?_drop] at hy
          exact hr (p + j) y v hy (by rw [← Nat.add_assoc]; simpa using hv)
        · cases hy
    · cases h
  | false =>
    simp only [hagg, Bool.false_eq_true, if_false] at h
    have hlt := (List.getElem?_eq_some_iff.1 h).1
    have hb : B + p < cells.size := by omega
    refine ⟨cells[B + p], ?_, hr p r _ h (by simp [hb])⟩
    have ha : (isAgg t).run P c.w = .ok false c.w := by rw [run_isAgg' h2, ← h3, hagg]
    simp [loadVar, ha, cell_of_row c.w k _ cells e fr hh, hb]

theorem boxArr_inv {b g s : Nat} {x : Box} {xs : List PV} (h : boxArr H b g s = some (x, xs)) : H b = some x ∧ x.gen = g ∧ x.body = .arr s xs := by
  unfold boxArr at h
  split at h
  · rename_i y hy
    split at h
    · rename_i s' ys hb
      split at h
      · rename_i hgs
        simp only [Option.some.injEq, Prod.mk.injEq] at h
        obtain ⟨rfl, rfl⟩ := h
        exact ⟨hy, hgs.1, by rw [hb, hgs.2]⟩
      · cases h
    · cases h
  · cases h

theorem cur_of {b g : Nat} {x : Box} (h : H b = some x) (hg : x.gen = g) : cur H b g = true := by simp [cur, h, hg]

theorem row_of (hs : Sim c H) {b s : Nat} {x : Box} {xs : List PV} (h : H b = some x) (hb : x.body = .arr s xs) {k : Nat} (hk : c.β b = some k) : RowRel c x.own s xs k := by
  have := hs.box b x h
  simp only [BoxRel, hb] at this
  rcases this with ⟨k', h1, h2⟩ | ⟨_, h2⟩
  · rw [h1] at hk; cases hk; exact h2
  · rw [h2] at hk; cases hk

theorem elem_room {s : Nat} {n sz i : Nat} (h : n * s ≤ sz) (hi : i < n) : i * s + s ≤ sz := by
  have : (i + 1) * s ≤ n * s := Nat.mul_le_mul_right _ hi
  rw [Nat.add_mul] at this
  omega

theorem ok_load (hs : Sim c H) {t : Nat} {x : PV} {v : Value} (hx : Rel c false x v) {r : Res} (h : sLoad P H t x = some r) :
    OpOk c H (((do pure (Next.value (← Instr.loadAt t v))) : Sem Next).run P c.w) r := by
  unfold sLoad at h
  split at h
  · rename_i ti b g s i p ht
    split at h
    · rename_i y xs hb
      obtain ⟨g1, g2, g3⟩ := boxArr_inv hb
      split at h
      · rename_i e he
        cases hl : loadE ti.agg ti.size e p with
        | none => simp [hl] at h
        | some q =>
          simp only [hl, Option.map_some, Option.some.injEq] at h
          subst h
          obtain ⟨k, hk, rfl⟩ := hx.ptr_inv hs (cur_of g1 g2)
          obtain ⟨cells, et, fr, f1, f2, f3, f4, f5⟩ := (row_of hs g1 g3 hk).ex
          have hlen := f4 i e he
          have hroom := elem_room f3 (List.getElem?_eq_some_iff.1 he).1
          obtain ⟨u, hu, hrel⟩ := run_loadE (P := P) ht f1 (x := e) (B := i * s) (cl := false) (by omega) (fun j z w a b => (f5 i e j z w he a b).2) hl
          exact .pure hs (v := u) (by simp [Instr.loadAt, Instr.sureAddr, hu]) hrel rfl
      · cases h
    · cases h
  · rename_i ti s xs i p ht
    split at h
    · rename_i e he
      cases hl : loadE ti.agg ti.size e p with
      | none => simp [hl] at h
      | some q =>
        simp only [hl, Option.map_some, Option.some.injEq] at h
        subst h
        cases hx with
        | ept _ _ k o cells et fr hA hh hsz hss h1' h2' =>
          have hlen := hss i e he
          have hroom := elem_room (s := s) (n := xs.length) (sz := xs.length * s) (Nat.le_refl _) (List.getElem?_eq_some_iff.1 he).1
          obtain ⟨u, hu, hrel⟩ := run_loadE (P := P) ht hh (x := e) (B := o + i * s) (cl := true) (by omega) (fun j z w a b => h2' i e j z w he a b) hl
          exact .pure hs (v := u) (by simp [Instr.loadAt, Instr.sureAddr, hu]) hrel.open rfl
    · cases h
  · cases h

theorem cellB_one {cl : Bool} {p : PV} {v : Value} (h : Rel c cl p v) (hb : p.cellB = true) : v.oneCell' = true := by
  cases h <;> simp_all [PV.cellB, Value.oneCell']

theorem okElem_cells {x : PV} {n : Nat} (hok : okElem x n = true) {v : Value} (h : Rel c false x v) :
    v.cells.size = n ∧ x.cells.length = n ∧ (∀ (j : Nat) y u, x.cells[j]? = some y → v.cells[j]? = some u → u.oneCell' = true ∧ Rel c false y u) ∧ (∀ u ∈ v.cells.toList, u.oneCell' = true) := by
  simp only [okElem, Bool.and_eq_true, beq_iff_eq] at hok
  obtain ⟨h1, h2⟩ := hok
  have hall : ∀ (j : Nat) y, x.cells[j]? = some y → y.cellB = true := fun j y hy => List.all_eq_true.1 h2 y (List.mem_of_getElem? hy)
  have main : v.cells.size = x.cells.length ∧ (∀ (j : Nat) y u, x.cells[j]? = some y → v.cells[j]? = some u → Rel c false y u) := by
    cases h with
    | agg hl hr => exact ⟨hl.symm, hr⟩
    | any => simp [PV.cells, PV.cellB] at h2
    | tup => simp [PV.cells, PV.cellB] at h2
    | ptr | bsl | map =>
      have h1c : v.oneCell' = true := by assumption
      refine ⟨(by cases v <;> first | rfl | (cases h1c)), fun j y u hy hu => ?_⟩
      cases j with
      | zero =>
        have hvc : v.cells = #[v] := by cases v <;> first | rfl | cases h1c
        rw [hvc] at hu
        simp only [PV.cells, List.getElem?_cons_zero, Option.some.injEq] at hy
        simp only [List.getElem?_toArray, List.getElem?_cons_zero, Option.some.injEq] at hu
        subst hy; subst hu
        first | exact .ptr _ (by assumption) (by assumption) (by assumption) (by assumption) | exact .bsl _ (by assumption) (by assumption) (by assumption) (by assumption) | exact .map _ (by assumption) (by assumption) (by assumption) (by assumption)
      | succ j => simp [PV.cells] at hy
    | _ =>
      refine ⟨rfl, fun j y u hy hu => ?_⟩
      cases j with
      | zero =>
        simp only [PV.cells, List.getElem?_cons_zero, Option.some.injEq] at hy
        simp only [Value.cells, List.getElem?_toArray, List.getElem?_cons_zero, Option.some.injEq] at hu
        subst hy; subst hu
        first
          | assumption
          | exact .bool _ | exact .ub _ | exact .int _ _ | exact .str _ | exact .addr _ | exact .nilp | exact .slnil _ _ | exact .nils | exact .nilf | exact .nili | exact .nilm
          | exact .ptr _ (by assumption) (by assumption) (by assumption) (by assumption) | exact .bsl _ (by assumption) (by assumption) (by assumption) (by assumption) | exact .map _ (by assumption) (by assumption) (by assumption) (by assumption)
          | exact .clo (by assumption) (by assumption) (by assumption) (by assumption) | exact .ifc (by assumption)
          | exact .sl _ _ _ _ _ _ (by assumption) (by assumption) (by assumption) (by assumption) (by assumption) (by assumption) (by assumption)
          | exact .ept _ _ _ _ _ _ _ (by assumption) (by assumption) (by assumption) (by assumption) (by assumption) (by assumption)
      | succ j => simp [PV.cells] at hy
  refine ⟨by omega, h1, fun j y u hy hu => ⟨cellB_one (main.2 j y u hy hu) (hall j y hy), main.2 j y u hy hu⟩, fun u hu => ?_⟩
  obtain ⟨j, hj⟩ := List.mem_iff_getElem?.1 hu
  have hj' : v.cells[j]? = some u := by simpa using hj
  have hlt : j < x.cells.length := by
    have := (Array.getElem?_eq_some_iff.1 hj').1
    omega
  exact cellB_one (main.2 j _ u (List.getElem?_eq_getElem hlt) hj') (hall j _ (List.getElem?_eq_getElem hlt))

theorem genOf_lt {b : Nat} : ∀ x, H b = some x → x.gen < genOf H b := fun x hx => by simp [genOf, hx]

theorem ok_newVar (hs : Sim c H) {d n : Nat} {x : PV} {v : Value} (hok : okElem x n = true) (hx : Rel c false x v) (t : TypeId) :
    OpOk c H (.ok (.value (.pointer (some ⟨c.w.heap.size, 0, none⟩))) (c.w.alloc (.cells v.cells t))) { v := .ptr d (genOf H d) n 0 0, rd := [d], wr := newBox H d n [x] } := by
  obtain ⟨e1, e2, e3, _⟩ := okElem_cells hok hx
  obtain ⟨c', h1, h2, h3, h4, h5, h6⟩ := hs.fresh d (genOf H d) genOf_lt (w' := c.w.alloc (.cells v.cells t)) (cells := v.cells) (e := t) rfl rfl rfl rfl (s := n) (xs' := [x]) (by simp [e1])
    (fun i y hy => by cases i with | zero => simp at hy; subst hy; exact e2 | succ i => simp at hy)
    (fun i y j p u hy hp hu => by
      cases i with
      | zero => simp at hy; subst hy; exact e3 j p u hp (by simpa using hu)
      | succ i => simp at hy)
  refine ⟨_, .pointer (some ⟨c.w.heap.size, 0, none⟩), c', by rw [h1], .inl rfl, ?_, h5, h6⟩
  exact .ptr _ rfl h3 (Nat.le_refl _) fun _ => ⟨_, h2, by simp⟩

theorem ok_box (hs : Sim c H) {d t : Nat} {x : PV} {v : Value} (hx : Rel c false x v) {r : Res} (h : sBox P H d t x = some r) :
    OpOk c H (((do pure (Next.value (← Instr.box t v))) : Sem Next).run P c.w) r := by
  unfold sBox at h
  split at h
  · rename_i ti ht
    split at h
    · rename_i hok
      simp only [Option.some.injEq] at h
      subst h
      have := ok_newVar hs (d := d) hok hx t
      simp only [Instr.box, newVar, newRow, Sem.run_bind, run_newObj, Result.andThen_ok, Sem.run_pure]
      exact this
    · cases h
  · cases h

theorem zero_rel {t : TypeId} {ti : TI} (ht : tyI P t = some ti) (hok : okElem ti.zero ti.size = true) : ∃ i z, P.info? t = some i ∧ i.zero = some z ∧ i.size = ti.size ∧ i.bytes = ti.bytes ∧ ∀ c : Cx, Rel c false ti.zero z := by
  obtain ⟨i, d, h1, h2, h3, h4, h5, h6⟩ := tyI_inv ht
  cases hz : i.zero with
  | none =>
    rw [hz] at h6
    simp only [Option.map_none, Option.getD_none] at h6
    rw [h6] at hok
    simp [okElem, PV.cells, PV.cellB] at hok
  | some z =>
    rw [hz] at h6
    simp only [Option.map_some, Option.getD_some] at h6
    exact ⟨i, z, h1, hz, h4.symm, h5.symm, fun c => by rw [h6]; exact St.ofConst c z⟩

theorem ok_alloc (hs : Sim c H) {d t : Nat} {r : Res} (h : sAlloc P H d t = some r) :
    OpOk c H (((do pure (Next.value (← Instr.alloc t true (.tuple #[])))) : Sem Next).run P c.w) r := by
  unfold sAlloc at h
  split at h
  · rename_i ti ht
    split at h
    · rename_i hok
      simp only [Option.some.injEq] at h
      subst h
      obtain ⟨i, z, h1, h2, _, _, h3⟩ := zero_rel ht hok
      have := ok_newVar hs (d := d) hok (h3 c) t
      simp only [Instr.alloc, newVar, newRow, Sem.run_bind, run_zeroValue' h1 h2, run_newObj, Result.andThen_ok, Sem.run_pure]
      exact this
    · cases h
  · cases h

end
end Pv
namespace Pv
open Go

theorem splice_length {cs : List PV} {o : Nat} {vs : List PV} (h : o + vs.length ≤ cs.length) : (splice cs o vs).length = cs.length := by
  simp only [splice, List.length_append, List.length_take, List.length_drop]; omega

theorem seg_get {α : Type} (cs : List α) (o : Nat) (vs : List α) (h : o + vs.length ≤ cs.length) (j : Nat) :
    (cs.take o ++ vs ++ cs.drop (o + vs.length))[j]? = if j < o then cs[j]? else if j < o + vs.length then vs[j - o]? else cs[j]? := by
  have h1 : (cs.take o).length = o := by simp; omega
  rw [List.append_assoc, List.getElem?_append, h1]
  split
  · rename_i hj; rw [List.getElem?_take, if_pos hj]
  · rename_i hj
    rw [List.getElem?_append]
    by_cases hjo : j < o + vs.length
    · rw [if_pos (by omega), if_pos hjo]
    · rw [if_neg (by omega), if_neg hjo, List.getElem?_drop]
      congr 1; omega

theorem splice_get {cs : List PV} {o : Nat} {vs : List PV} (h : o + vs.length ≤ cs.length) (j : Nat) :
    (splice cs o vs)[j]? = if j < o then cs[j]? else if j < o + vs.length then vs[j - o]? else cs[j]? := seg_get cs o vs h j

section
variable {P : Program} {c : Cx} {H : FH}

theorem setc_cells {e : PV} {p : Nat} {vs : List PV} (h : p + vs.length ≤ e.cells.length) (hv : ∀ y ∈ vs, y.cellB = true) :
    (e.setc p vs).cells.length = e.cells.length ∧ ∀ (j : Nat) y, (e.setc p vs).cells[j]? = some y → (j < p ∨ p + vs.length ≤ j) ∧ (y = .any ∨ e.cells[j]? = some y) ∨ (p ≤ j ∧ vs[j - p]? = some y) := by
  have hagg : ∀ cs : List PV, p + vs.length ≤ cs.length → (PV.agg (splice cs p vs)).cells.length = cs.length ∧ ∀ (j : Nat) y, (PV.agg (splice cs p vs)).cells[j]? = some y → (j < p ∨ p + vs.length ≤ j) ∧ (y = .any ∨ cs[j]? = some y) ∨ (p ≤ j ∧ vs[j - p]? = some y) := by
    intro cs hcs
    refine ⟨splice_length hcs, fun j y hy => ?_⟩
    simp only [PV.cells] at hy
    rw [splice_get hcs] at hy
    split at hy
    · exact .inl ⟨.inl (by assumption), .inr hy⟩
    · split at hy
      · exact .inr ⟨by omega, hy⟩
      · exact .inl ⟨.inr (by omega), .inr hy⟩
  have hone : ∀ x : PV, x.cells = [x] → p + vs.length ≤ 1 → (vs.headD .any).cells.length = 1 ∧ ∀ (j : Nat) y, (vs.headD .any).cells[j]? = some y → (j < p ∨ p + vs.length ≤ j) ∧ (y = .any ∨ x.cells[j]? = some y) ∨ (p ≤ j ∧ vs[j - p]? = some y) := by
    intro x hx hle
    cases vs with
    | nil =>
      refine ⟨rfl, fun j y hy => ?_⟩
      simp only [List.headD_nil, PV.cells] at hy
      cases j with
      | zero => simp at hy; subst hy; exact .inl ⟨by simp; omega, .inl rfl⟩
      | succ j => simp at hy
    | cons u us =>
      simp only [List.length_cons] at hle
      have hus : us = [] := List.eq_nil_of_length_eq_zero (by omega)
      subst hus
      have hp : p = 0 := by simp at hle; omega
      subst hp
      have hu := hv u (by simp)
      have hcu : u.cells = [u] := by cases u <;> simp_all [PV.cells, PV.cellB]
      simp only [List.headD_cons, hcu]
      refine ⟨rfl, fun j y hy => .inr ⟨by omega, by simpa using hy⟩⟩
  cases e with
  | agg cs => exact hagg cs h
  | _ => exact hone _ rfl h

theorem okElem_B {x : PV} {n : Nat} (hok : okElem x n = true) : ∀ y ∈ x.cells, y.cellB = true := by
  simp only [okElem, Bool.and_eq_true] at hok
  exact List.all_eq_true.1 hok.2

theorem ok_store (hs : Sim c H) {t : Nat} {x q : PV} {v u : Value} (hx : Rel c false x v) (hq : Rel c false q u) {r : Res} (h : sStore P H t x q = some r) :
    OpOk c H (((do Instr.storeAt t v u; pure Next.skip) : Sem Next).run P c.w) r := by
  unfold sStore at h
  split at h
  · rename_i ti b g s i p ht
    split at h
    · rename_i y xs hb
      obtain ⟨g1, g2, g3⟩ := boxArr_inv hb
      split at h
      · rename_i e he
        split at h
        · rename_i hc
          obtain ⟨ho, hok, hfit⟩ := hc
          simp only [Option.some.injEq] at h
          subst h
          obtain ⟨k, hk, rfl⟩ := hx.ptr_inv hs (cur_of g1 g2)
          obtain ⟨cells, et, fr, f1, f2, f3, f4, f5⟩ := (row_of hs g1 g3 hk).ex
          obtain rfl := f2 ho
          obtain ⟨inf, d, i1, i2, i3, i4, _⟩ := tyI_inv ht
          obtain ⟨e1, e2, e3, e4⟩ := okElem_cells hok hq
          have hlen := f4 i e he
          have hil := (List.getElem?_eq_some_iff.1 he).1
          have hroom := elem_room f3 hil
          have hul : u.cells.toList.length = ti.size := by simp [e1]
          have hst := run_storeCells_at P k (i * s + p) et u.cells.toList 0 cells c.w f1 (by simp only [hul]; omega) e4
          simp only [Nat.add_zero] at hst
          have hl : y.live = true := by simp [Box.live, g3]
          have hseg := seg_get cells.toList (i * s + p) u.cells.toList (by simp only [hul, Array.length_toList]; omega)
          rw [hul] at hst hseg
          obtain ⟨s1, s2⟩ := setc_cells (e := e) (p := p) (vs := q.cells) (by omega) (okElem_B hok)
          obtain ⟨c', h1, h2, h3, h4, h5, h6⟩ := hs.write g1 ho hl hk f1
            (cells' := (cells.toList.take (i * s + p) ++ u.cells.toList ++ cells.toList.drop (i * s + p + ti.size)).toArray) (by simp [e1]; omega) y.gen (Nat.le_refl _)
            (s := s) (xs' := xs.set i (e.setc p q.cells)) (by simpa using f3)
            (fun i' z hz => by
              rw [List.getElem?_set] at hz
              split at hz
              · simp only [hil, if_true, Option.some.injEq] at hz; subst hz; omega
              · exact f4 i' z hz)
            (fun i' z j y' v' hz hy hv => by
              simp only [List.getElem?_toArray] at hv
              rw [hseg] at hv
              rw [List.getElem?_set] at hz
              by_cases hii : i = i'
              · subst hii
                simp only [hil, ite_true, Option.some.injEq] at hz
                subst hz
                rcases s2 j y' hy with ⟨hj, hany⟩ | ⟨hj, hy'⟩
                · have hjs : j < s := by
                    have := (List.getElem?_eq_some_iff.1 hy).1
                    omega
                  have hv' : cells[i * s + j]? = some v' := by
                    rw [e2] at hj
                    split at hv
                    · simpa using hv
                    · split at hv
                      · omega
                      · simpa using hv
                  have hje : j < e.cells.length := by omega
                  have h7 := f5 i e j _ v' he (List.getElem?_eq_getElem hje) hv'
                  rcases hany with rfl | hany
                  · exact ⟨h7.1, .any _⟩
                  · exact f5 i e j y' v' he hany hv'
                · have hjl := (List.getElem?_eq_some_iff.1 hy').1
                  rw [if_neg (by omega), if_pos (by omega)] at hv
                  have : i * s + j - (i * s + p) = j - p := by omega
                  rw [this] at hv
                  exact e3 (j - p) y' v' hy' (by simpa using hv)
              · simp only [hii, if_false] at hz
                have hjs : j < s := by
                  have := (List.getElem?_eq_some_iff.1 hy).1
                  have := f4 i' z hz
                  omega
                have hne : ¬ (i * s + p ≤ i' * s + j ∧ i' * s + j < i * s + p + ti.size) := by
                  rintro ⟨a1, a2⟩
                  rcases Nat.lt_or_gt_of_ne hii with h7 | h7
                  · have : (i + 1) * s ≤ i' * s := Nat.mul_le_mul_right _ h7
                    rw [Nat.add_mul] at this; omega
                  · have : (i' + 1) * s ≤ i * s := Nat.mul_le_mul_right _ h7
                    rw [Nat.add_mul] at this; omega
                have hv' : cells[i' * s + j]? = some v' := by
                  split at hv
                  · simpa using hv
                  · split at hv
                    · omega
                    · simpa using hv
                exact f5 i' z j y' v' hz hy hv')
          have hbox : ({ y with body := .arr s (xs.set i (e.setc p q.cells)) } : Box) = ⟨y.gen, true, .arr s (xs.set i (e.setc p q.cells))⟩ := by cases y; simp_all
          refine ⟨.skip, undef, c', ?_, .inr ⟨rfl, rfl⟩, .tup (by simp) (fun i x v h => by simp at h), ?_, ?_⟩
          · rw [h1]
            simp [Instr.storeAt, Instr.sureAddr, storeVar, run_sizeOf' i1, ← i4, e1, hst]
          · rw [hbox]; exact h5
          · rw [hbox]; exact h6
        · cases h
      · cases h
    · cases h
  · cases h

theorem elemI_inv {t : TypeId} {k : EK} {e : TypeId} (h : elemI P t = some (k, e)) : (k = .slice ∧ P.underlying t = some (.slice e)) ∨ (∃ n, k = .array n ∧ P.underlying t = some (.array n e)) := by
  unfold elemI at h
  split at h
  · rename_i e' h1
    split at h
    · simp only [Option.some.injEq, Prod.mk.injEq] at h
      exact .inl ⟨h.1.symm, by rw [h1, h.2]⟩
    · cases h
  · rename_i n e' h1
    split at h
    · simp only [Option.some.injEq, Prod.mk.injEq] at h
      exact .inr ⟨n, h.1.symm, by rw [h1, h.2]⟩
    · cases h
  · cases h

theorem elemI_info {t : TypeId} {k : EK} {e : TypeId} (h : elemI P t = some (k, e)) : ∃ inf, P.info? e = some inf := by
  unfold elemI at h
  split at h
  · split at h
    · rename_i hi
      simp only [Option.some.injEq, Prod.mk.injEq] at h
      rw [← h.2]; exact Option.isSome_iff_exists.1 hi
    · cases h
  · split at h
    · rename_i hi
      simp only [Option.some.injEq, Prod.mk.injEq] at h
      rw [← h.2]; exact Option.isSome_iff_exists.1 hi
    · cases h
  · cases h

theorem ok_indexAddr (hs : Sim c H) {t : Nat} {x ix : PV} {v vi : Value} (hx : Rel c false x v) (hi : Rel c false ix vi) {r : Res} (h : sIndexAddr P H t x ix = some r) :
    OpOk c H (((do pure (Next.value (← Instr.indexAt t v vi))) : Sem Next).run P c.w) r := by
  unfold sIndexAddr at h
  split at h
  · rename_i e s xs k i he
    obtain ⟨inf, hinf⟩ := elemI_info he
    rcases elemI_inv he with ⟨_, hu⟩ | ⟨n, hn, _⟩
    · split at h
      · rename_i hr
        obtain ⟨hcs, hr1, hr2⟩ := hr
        simp only [Option.some.injEq] at h
        subst h
        cases hi
        have hss' : inf.size = s := by rw [← hcs, cellsOf_info hinf]
        have hlt : i.toNat < xs.length := by omega
        cases hx with
        | slnil => simp at hr2; omega
        | sl kb off cap cells et fr hA hh hz hcap hss h1 h2 =>
          refine .pure hs (v := .pointer (some ⟨kb, off + i.toNat * s + 0, none⟩)) ?_ (.ept i.toNat 0 kb off cells et fr hA hh hz hss h1 h2) rfl
          simp [Instr.indexAt, asIntOf, run_underlying hu, hr1, hr2, run_sizeOf' hinf, Addr.add_lit, hss']
      · cases h
    · cases hn
  · rename_i e b g s st n k i he
    obtain ⟨inf, hinf⟩ := elemI_info he
    rcases elemI_inv he with ⟨_, hu⟩ | ⟨n, hn, _⟩
    · split at h
      · rename_i hr
        obtain ⟨hc, hcs, hr1, hr2⟩ := hr
        simp only [Option.some.injEq] at h
        subst h
        cases hi
        have hss : inf.size = s := by rw [← hcs, cellsOf_info hinf]
        rcases hx.bsl_inv hs hc with ⟨kb, cells, et, fr, cap, hk, hh, rfl, h5, h6⟩ | ⟨rfl, _⟩
        · refine .pure hs (v := .pointer (some ⟨kb, (st + i.toNat) * s + 0, none⟩)) ?_ (Rel.ptr_mk hs hc hk) rfl
          simp [Instr.indexAt, asIntOf, run_underlying hu, hr1, hr2, run_sizeOf' hinf, Addr.add_lit, hss, Nat.add_mul]
        · simp at hr2; omega
      · cases h
    · cases hn
  · rename_i m e b g s j p k i he
    obtain ⟨inf, hinf⟩ := elemI_info he
    rcases elemI_inv he with ⟨hn, _⟩ | ⟨n, hn, hu⟩
    · cases hn
    · simp only [EK.array.injEq] at hn
      subst hn
      split at h
      · rename_i hr
        obtain ⟨hc, hr1, hr2⟩ := hr
        simp only [Option.some.injEq] at h
        subst h
        cases hi
        obtain ⟨kb, hk, rfl⟩ := hx.ptr_inv hs hc
        refine .pure hs (v := .pointer (some ⟨kb, j * s + (p + i.toNat * P.cellsOf e), none⟩)) ?_ (Rel.ptr_mk hs hc hk) rfl
        simp [Instr.indexAt, asIntOf, run_underlying hu, hr1, hr2, run_sizeOf' hinf, Addr.add_lit, Instr.sureAddr, cellsOf_info hinf, Nat.add_assoc]
      · cases h
  · cases h

theorem ok_len (hs : Sim c H) {t ty : Nat} {x : PV} {v : Value} (hx : Rel c false x v) {r : Res} (h : sLen P H t x = some r) :
    OpOk c H (((do pure (Next.value (← Builtin.len_ #[t] ty #[v]))) : Sem Next).run P c.w) r := by
  unfold sLen at h
  split at h
  · rename_i e s xs he
    rcases elemI_inv he with ⟨_, hu⟩ | ⟨n, hn, _⟩
    · simp only [Option.some.injEq] at h
      subst h
      refine .pure hs (v := .int .i64 xs.length) ?_ (.int _ _) rfl
      cases hx <;> simp [Builtin.len_, run_underlying hu, goInt]
    · cases hn
  · rename_i e b g s st n he
    rcases elemI_inv he with ⟨_, hu⟩ | ⟨n, hn, _⟩
    · split at h
      · rename_i hc
        simp only [Option.some.injEq] at h
        subst h
        refine .pure hs (v := .int .i64 n) ?_ (.int _ _) rfl
        rcases hx.bsl_inv hs hc with ⟨kb, cells, et, fr, cap, hk, hh, rfl, h5, h6⟩ | ⟨rfl, a, rfl⟩ <;> simp [Builtin.len_, run_underlying hu, goInt]
      · cases h
    · cases hn
  · rename_i e he
    rcases elemI_inv he with ⟨_, hu⟩ | ⟨n, hn, _⟩
    · simp only [Option.some.injEq] at h
      subst h
      refine .pure hs (v := .int .i64 0) ?_ (.int _ _) rfl
      cases hx; simp [Builtin.len_, run_underlying hu, goInt]
    · cases hn
  · rename_i s he
    split at h
    · rename_i hstr
      simp only [Option.some.injEq] at h
      subst h
      unfold sLen.isStr at hstr
      split at hstr
      · rename_i hu
        cases hx
        refine .pure hs (v := .int .i64 s.size) ?_ (.int _ _) rfl
        simp [Builtin.len_, run_underlying hu, goInt]
      · cases hstr
    · cases h
  · cases h

theorem ok_binop (hs : Sim c H) {op : BinOp} {t : Nat} {ox oy : Operand} {x y : PV} {vx vy : Value} (hx : Rel c false x vx) (hy : Rel c false y vy) {p : PV} (h : binop op x y = some p) :
    OpOk c H (((do pure (Next.value (← (do eqGuard op t ox oy vx vy; Go.binOp op t vx vy)))) : Sem Next).run P c.w) { v := p } := by
  unfold binop at h
  have hg : ∀ (op : BinOp) (k k' : IntKind) (a b : Int), (eqGuard op t ox oy (.int k a) (.int k' b)).run P c.w = .ok () c.w := fun op k k' a b => by cases op <;> simp [eqGuard]
  have hgs : ∀ (op : BinOp) (a b : ByteArray), (eqGuard op t ox oy (.string a) (.string b)).run P c.w = .ok () c.w := fun op a b => by cases op <;> simp [eqGuard]
  split at h
  all_goals (try split at h)
  all_goals cases h
  all_goals (try subst_vars)
  all_goals (cases hx; cases hy)
  all_goals refine .pure hs ?_ (by first | exact .int _ _ | exact .bool _ | exact .str _) rfl
  all_goals simp only [Sem.run_bind, hg, hgs, Result.andThen_ok]
  all_goals first
    | (simp [Go.binOp, Op.intArith, Op.intCmp]; done)
    | (simp [Go.binOp, Op.stringOp]; done)
    | (rename_i hb; simp [Go.binOp, Op.shift, Int.not_lt.2 hb.1, Nat.min_eq_left hb.2]; done)
    | (simp only [maxLen] at *; simp [Go.binOp, Op.stringOp, IntKind.max, IntKind.signed, IntKind.bits]; omega)

end
end Pv
set_option linter.unusedSimpArgs false
namespace Pv
open Go

section
variable {P : Program} {c : Cx} {H : FH}

structure RowOk (c : Cx) (cells : Array Value) (s : Nat) (xs : List PV) : Prop where
  size : cells.size = xs.length * s
  len : ∀ (i : Nat) x, xs[i]? = some x → x.cells.length = s
  rel : ∀ (i : Nat) x (j : Nat) y v, xs[i]? = some x → x.cells[j]? = some y → cells[i * s + j]? = some v → v.oneCell' = true ∧ Rel c false y v

theorem fill_cons (place : Nat → Option (Nat × Nat)) (cells : Array Value) (i : Nat) (v : Value) (rest : List (Nat × Value)) (off n : Nat) (hp : place i = some (off, n)) (h1 : v.cells.size = n) (h2 : off + n ≤ cells.size) :
    ∃ cells', Instr.fill place cells ((i, v) :: rest) = Instr.fill place cells' rest ∧ cells'.size = cells.size ∧
      ∀ k, cells'[k]? = if off ≤ k ∧ k < off + n then v.cells[k - off]? else cells[k]? := by
  obtain ⟨g1, g2⟩ := Go.Great.foldl_set off v.cells.toList 0 cells
  refine ⟨_, ?_, g1, fun k => ?_⟩
  · simp only [Instr.fill, hp]
    rw [if_neg (by simp [h1]; omega)]
    congr 1
    rw [← Array.foldl_toList, Array.toList_zipIdx]
  · rw [g2 k]
    simp only [Nat.add_zero, Array.length_toList, h1, Array.getElem?_toList]
    by_cases hk : off ≤ k ∧ k < off + n
    · rw [if_pos ⟨hk.1, hk.2, by omega⟩, if_pos hk]
    · rw [if_neg (fun h => hk ⟨h.1, h.2.1⟩), if_neg hk]

theorem set_elem_rel {s : Nat} (hs0 : 0 < s) {cells cells' : Array Value} {xs : List PV} (hok : RowOk c cells s xs) {i : Nat} (hi : i < xs.length) {x : PV} {v : Value} (e1 : v.cells.size = s) (e2 : x.cells.length = s)
    (e3 : ∀ (j : Nat) y u, x.cells[j]? = some y → v.cells[j]? = some u → u.oneCell' = true ∧ Rel c false y u) (hsz : cells'.size = cells.size)
    (hg : ∀ k, cells'[k]? = if i * s ≤ k ∧ k < i * s + s then v.cells[k - i * s]? else cells[k]?) : RowOk c cells' s (xs.set i x) := by
  refine ⟨by rw [hsz, hok.size, List.length_set], fun i' z hz => ?_, fun i' z j y u hz hy hu => ?_⟩
  · rw [List.getElem?_set] at hz
    split at hz
    · simp only [hi, if_true, Option.some.injEq] at hz; subst hz; exact e2
    · exact hok.len i' z hz
  · rw [hg] at hu
    rw [List.getElem?_set] at hz
    by_cases hii : i = i'
    · subst hii
      simp only [hi, if_true, Option.some.injEq] at hz
      subst hz
      have hjl := (List.getElem?_eq_some_iff.1 hy).1
      rw [if_pos (by omega), Nat.add_sub_cancel_left] at hu
      exact e3 j y u hy hu
    · simp only [hii, if_false] at hz
      have hjs : j < s := by
        have := (List.getElem?_eq_some_iff.1 hy).1
        have := hok.len i' z hz
        omega
      rw [if_neg (by
        rintro ⟨a1, a2⟩
        rcases Nat.lt_or_gt_of_ne hii with h7 | h7
        · have : (i + 1) * s ≤ i' * s := Nat.mul_le_mul_right _ h7
          rw [Nat.add_mul] at this; omega
        · have : (i' + 1) * s ≤ i * s := Nat.mul_le_mul_right _ h7
          rw [Nat.add_mul] at this; omega)] at hu
      exact hok.rel i' z j y u hz hy hu

theorem layParts_fill {T : List PV} {a : Act} (hT : RelL c T a.tmps.toList) {s : Nat} (hs0 : 0 < s) : ∀ (parts : List (Nat × Operand)) (xs xs' : List PV) (cells : Array Value), layParts T s parts xs = some xs' → RowOk c cells s xs →
    ∃ cells', Instr.fill (fun i => some (i * s, s)) cells (parts.map fun x => (x.1, a.eval x.2)) = some cells' ∧ RowOk c cells' s xs' ∧ xs'.length = xs.length
  | [], xs, xs', cells, h, hok => by
    simp only [layParts, Option.some.injEq] at h
    subst h
    exact ⟨cells, rfl, hok, rfl⟩
  | (i, o) :: rest, xs, xs', cells, h, hok => by
    simp only [layParts] at h
    split at h
    · rename_i hc
      obtain ⟨e1, e2, e3, e4⟩ := okElem_cells hc.1 (ev_rel hT o)
      have hroom := elem_room (s := s) (n := xs.length) (sz := cells.size) (by rw [hok.size]; exact Nat.le_refl _) hc.2
      obtain ⟨cells1, g1, g2, g3⟩ := fill_cons (fun i => some (i * s, s)) cells i (a.eval o) (rest.map fun x => (x.1, a.eval x.2)) (i * s) s rfl e1 hroom
      obtain ⟨cells', k1, k2, k3⟩ := layParts_fill hT hs0 rest _ xs' cells1 h (set_elem_rel hs0 hok hc.2 e1 e2 e3 g2 g3)
      exact ⟨cells', by rw [List.map_cons, g1, k1], k2, by rw [k3, List.length_set]⟩
    · cases h

theorem mod_get {z : Array Value} {n i j : Nat} (hs : 0 < z.size) (hj : j < z.size) (hlt : i * z.size + j < n) :
    ((Array.range n).map (z[· % z.size]!))[i * z.size + j]? = z[j]? := by
  have hm : (i * z.size + j) % z.size = j := by rw [Nat.add_comm, Nat.mul_comm, Nat.add_mul_mod_self_left, Nat.mod_eq_of_lt hj]
  simp [hlt, hm, hj]

theorem zeros_row {zp : PV} {z : Value} {s : Nat} (hok : okElem zp s = true) (hz : Rel c false zp z) (hs0 : 0 < s) (len : Nat) :
    RowOk c ((Array.range (len * s)).map (z.cells[· % z.cells.size]!)) s (List.replicate len zp) := by
  obtain ⟨e1, e2, e3, e4⟩ := okElem_cells hok hz
  refine ⟨by simp, fun i x hx => ?_, fun i x j y v hx hy hv => ?_⟩
  · rw [List.getElem?_replicate] at hx
    split at hx
    · simp at hx; subst hx; exact e2
    · cases hx
  · rw [List.getElem?_replicate] at hx
    split at hx
    · rename_i hi
      simp at hx; subst hx
      have hjl := (List.getElem?_eq_some_iff.1 hy).1
      have hroom := elem_room (s := s) (n := len) (sz := len * s) (Nat.le_refl _) hi
      subst e1
      rw [mod_get hs0 (by omega) (by omega)] at hv
      exact e3 j y v hy hv
    · cases hx

theorem RowOk.mono {c' : Cx} (hle : c.Le c') {cells : Array Value} {s : Nat} {xs : List PV} (h : RowOk c cells s xs) : RowOk c' cells s xs :=
  ⟨h.size, h.len, fun i x j y v a b d => ⟨(h.rel i x j y v a b d).1, (h.rel i x j y v a b d).2.mono hle⟩⟩

theorem ok_newRow (hs : Sim c H) {d s : Nat} {xs : List PV} {cells : Array Value} (hok : RowOk c cells s xs) {w' : World} {e : TypeId} (hw : w'.heap = c.w.heap.push (.cells cells e (0, 0)))
    (ho : w'.os = c.w.os) (ht : w'.tape = c.w.tape) (hu : w'.output = c.w.output) {n cap : Nat} (hn : n = xs.length) (hcap : n ≤ cap) (hcs : cap * s ≤ cells.size) :
    OpOk c H (.ok (.value (.slice (some ⟨c.w.heap.size, 0, none⟩) n cap)) w') { v := .bsl d (genOf H d) s 0 n, rd := [d], wr := newBox H d s xs } := by
  obtain ⟨c', h1, h2, h3, h4, h5, h6⟩ := hs.fresh d (genOf H d) genOf_lt hw ho ht hu (s := s) (xs' := xs) (by rw [hok.size]; exact Nat.le_refl _) hok.len hok.rel
  refine ⟨_, .slice (some ⟨c.w.heap.size, 0, none⟩) n cap, c', by rw [h1], .inl rfl, ?_, h5, h6⟩
  refine .bsl _ rfl h3 (Nat.le_refl _) fun _ => .inl ⟨c.w.heap.size, cells, e, (0, 0), cap, h2, ?_, by simp, hcap, by simpa using hcs⟩
  rw [h1, hw]; simp

theorem ok_buildSlice (hs : Sim c H) {T : List PV} {a : Act} (hT : RelL c T a.tmps.toList) {d t len : Nat} {parts : Array (Nat × Operand)} {r : Res} (h : sBuildSlice P H T d t len parts.toList = some r) :
    OpOk c H (((do pure (Next.value (← Instr.buildSlice t len (parts.map fun x => (x.1, a.eval x.2))))) : Sem Next).run P c.w) r := by
  unfold sBuildSlice at h
  split at h
  · rename_i e he
    rcases elemI_inv he with ⟨_, hu⟩ | ⟨n, hn, _⟩
    · split at h
      · rename_i ti ht
        split at h
        · rename_i hc
          obtain ⟨hok, hs0, hbig⟩ := hc
          obtain ⟨inf, z, i1, i2, i3, _, i5⟩ := zero_rel ht hok
          split at h
          · rename_i xs hxs
            simp only [Option.some.injEq] at h
            subst h
            obtain ⟨e1, e2, e3, e4⟩ := okElem_cells hok (i5 c)
            obtain ⟨cells', k1, k2, k3⟩ := layParts_fill hT hs0 parts.toList _ xs _ hxs (zeros_row hok (i5 c) hs0 len)
            simp only [List.length_replicate] at k3
            have := ok_newRow hs (d := d) k2 (w' := c.w.alloc (.cells cells' e)) (e := e) rfl rfl rfl rfl (n := len) (cap := len) k3.symm (Nat.le_refl _) (by rw [k2.size, k3]; exact Nat.le_refl _)
            refine cast ?_ this
            congr 1
            have hbig' : ¬ (2 ^ 24 < len * inf.size) := by rw [i3]; omega
            have hbig2 : ¬ (len * inf.size > 2 ^ 24) := hbig'
            simp only [Instr.buildSlice, Sem.run_bind, run_underlying hu, Result.andThen_ok, run_sizeOf' i1, i3, Sem.run_ite, Array.toList_map]
            rw [if_neg (by rw [i3] at hbig2; exact hbig2)]
            by_cases h0 : len * ti.size = 0
            · have hr : Array.range 0 = #[] := rfl
              simp only [h0, hr, Array.map_empty] at k1
              simp only [h0, if_true, hr, Array.map_empty, Sem.run_pure, Result.andThen_ok, k1]
              rfl
            · simp only [h0, if_false, Sem.run_bind, run_zeroValue' i1 i2, Result.andThen_ok, Sem.run_pure, k1]
              rfl
          · cases h
        · cases h
      · cases h
    · cases hn
  · cases h

end
end Pv
set_option linter.unusedSimpArgs false
set_option linter.unusedVariables false
namespace Pv
open Go

section
variable {P : Program} {c : Cx} {H : FH}

structure AggOk (c : Cx) (cells : Array Value) (cs : List PV) : Prop where
  size : cells.size = cs.length
  rel : ∀ (j : Nat) y v, cs[j]? = some y → cells[j]? = some v → Rel c false y v

theorem layFields_fill {T : List PV} {a : Act} (hT : RelL c T a.tmps.toList) {t : Nat} {fs : Array Field} (hu : P.underlying t = some (.struct fs)) (place : Nat → Option (Nat × Nat))
    (hp : ∀ i f, fs[i]? = some f → place i = some (f.offset, P.cellsOf f.type)) : ∀ (parts : List (Nat × Operand)) (cs cs' : List PV) (cells : Array Value), layFields T P t parts cs = some cs' → AggOk c cells cs →
    ∃ cells', Instr.fill place cells (parts.map fun x => (x.1, a.eval x.2)) = some cells' ∧ AggOk c cells' cs'
  | [], cs, cs', cells, h, hok => by
    simp only [layFields, Option.some.injEq] at h
    subst h
    exact ⟨cells, rfl, hok⟩
  | (i, o) :: rest, cs, cs', cells, h, hok => by
    simp only [layFields] at h
    split at h
    · rename_i off ft hf
      obtain ⟨fs', x, f1, f2, f3, f4, f5⟩ := fldI_inv hf
      rw [hu] at f1
      simp only [Option.some.injEq, TypeDesc.struct.injEq] at f1
      subst f1; subst f4
      split at h
      · rename_i hc
        obtain ⟨e1, e2, e3, e4⟩ := okElem_cells hc.1 (ev_rel hT o)
        obtain ⟨cells1, g1, g2, g3⟩ := fill_cons place cells i (a.eval o) (rest.map fun x => (x.1, a.eval x.2)) off (P.cellsOf x.type) (by rw [hp i x f2, f3]) e1 (by rw [hok.size]; exact hc.2)
        have hsp : off + (ev T o).cells.length ≤ cs.length := by rw [e2]; exact hc.2
        obtain ⟨cells', k1, k2⟩ := layFields_fill hT hu place hp rest _ cs' cells1 h ⟨by rw [g2, hok.size, splice_length hsp], fun j y v hy hv => by
          rw [splice_get hsp, e2] at hy
          rw [g3] at hv
          by_cases hj : off ≤ j ∧ j < off + P.cellsOf x.type
          · rw [if_neg (by omega), if_pos hj.2] at hy
            rw [if_pos hj] at hv
            exact (e3 (j - off) y v hy hv).2
          · rw [if_neg hj] at hv
            have hy' : cs[j]? = some y := by
              split at hy
              · exact hy
              · rw [if_neg (by omega)] at hy; exact hy
            exact hok.rel j y v hy' hv⟩
        exact ⟨cells', by rw [List.map_cons, g1, k1], k2⟩
      · cases h
    · cases h

theorem run_mapM_places (fs : List Field) (w : World) (hall : ∀ f ∈ fs, ∃ i, P.info? f.type = some i) :
    (fs.mapM fun f => do pure (f.offset, ← Go.sizeOf f.type) : Sem (List (Nat × Nat))).run P w = .ok (fs.map fun f => (f.offset, P.cellsOf f.type)) w := by
  induction fs with
  | nil => simp
  | cons f fs ih =>
    obtain ⟨i, hi⟩ := hall f (by simp)
    have ih' := ih fun g hg => hall g (by simp [hg])
    simp only [List.mapM_cons, Sem.run_bind, run_sizeOf' hi, Result.andThen_ok, Sem.run_pure, ih', List.map_cons, cellsOf_info hi]

theorem ok_build (hs : Sim c H) {T : List PV} {a : Act} (hT : RelL c T a.tmps.toList) {t : Nat} {parts : Array (Nat × Operand)} {r : Res} (h : sBuild P T t parts.toList = some r) :
    OpOk c H (((do pure (Next.value (← Instr.build t (parts.map fun x => (x.1, a.eval x.2))))) : Sem Next).run P c.w) r := by
  unfold sBuild at h
  split at h
  · rename_i ti ht
    split at h
    · rename_i cs hz
      split at h
      · rename_i hc
        obtain ⟨hlen, hst⟩ := hc
        cases hl : layFields T P t parts.toList cs with
        | none => simp [hl] at h
        | some cs' =>
          simp only [hl, Option.map_some, Option.some.injEq] at h
          subst h
          unfold sBuild.isStruct at hst
          split at hst
          · rename_i fs hu
            have hall : ∀ f ∈ fs.toList, ∃ i, P.info? f.type = some i := fun f hf => Option.isSome_iff_exists.1 (List.all_eq_true.1 hst f hf)
            obtain ⟨inf, d, i1, i2, i3, i4, i5, i6⟩ := tyI_inv ht
            cases hzz : inf.zero with
            | none => rw [hzz] at i6; simp only [Option.map_none, Option.getD_none] at i6; rw [hz] at i6; cases i6
            | some z =>
              rw [hzz] at i6
              simp only [Option.map_some, Option.getD_some] at i6
              have hzr : Rel c false ti.zero z := by rw [i6]; exact St.ofConst c z
              rw [hz] at hzr
              cases hzr with
              | agg hl1 hl2 =>
                rename_i vs
                obtain ⟨cells', k1, k2⟩ := layFields_fill hT hu ((fs.map fun f => (f.offset, P.cellsOf f.type))[·]?) (fun i f hf => by simp [hf]) parts.toList cs cs' vs hl ⟨hl1.symm, hl2⟩
                refine .pure hs (v := .agg cells') ?_ (.agg k2.size.symm k2.rel) rfl
                have hm := run_mapM_places (P := P) fs.toList c.w hall
                simp only [Instr.build, Sem.run_bind, run_zeroValue' i1 hzz, Result.andThen_ok, run_underlying hu, Array.toList_map, Value.cells]
                rw [show (Array.mapM (fun f => do pure (f.offset, ← Go.sizeOf f.type)) fs : Sem (Array (Nat × Nat))) = List.toArray <$> (fs.toList.mapM fun f => do pure (f.offset, ← Go.sizeOf f.type)) from by
                  rw [Array.mapM_eq_mapM_toList]]
                simp only [Sem.run_map, hm, Result.andThen_ok]
                have hplace : (fun i : Nat => (fs.toList.map fun f => (f.offset, P.cellsOf f.type)).toArray[i]?) = (fun i : Nat => (fs.map fun f => (f.offset, P.cellsOf f.type))[i]?) := by
                  funext i; simp
                rw [hplace, k1]
                rfl
          · cases hst
      · cases h
    · cases h
  · cases h

theorem boundOf_run {o : Option PV} {ov : Option Value} (hrel : ∀ p, o = some p → ∃ v, ov = some v ∧ Rel c false p v) (hnone : o = none → ov = none) {dflt l : Nat} (h : boundOf o dflt = some l) {y : Nat} {code : BoundsCode} (hl : l ≤ y) :
    (∀ (v : Value), ov = some v → (Instr.sliceBound v y code).run P c.w = .ok l c.w) ∧ (ov = none → l = dflt) := by
  unfold boundOf at h
  split at h
  · simp only [Option.some.injEq] at h
    have := hnone rfl
    subst this
    exact ⟨fun v hv => (by cases hv), fun _ => h.symm⟩
  · rename_i k i
    obtain ⟨v, hv, hr⟩ := hrel _ rfl
    cases hr
    split at h
    · rename_i hi
      simp only [Option.some.injEq] at h
      subst h
      subst hv
      refine ⟨fun v hv => ?_, fun h => by cases h⟩
      cases hv
      have hle : i ≤ (y : Int) := by omega
      simp [Instr.sliceBound, asIntOf, hi, hle]
    · cases h
  · cases h

theorem run_sliceBounds {lo hi : Option PV} {vlo vhi : Option Value} (hlo : ∀ p, lo = some p → ∃ v, vlo = some v ∧ Rel c false p v) (hlo0 : lo = none → vlo = none)
    (hhi : ∀ p, hi = some p → ∃ v, vhi = some v ∧ Rel c false p v) (hhi0 : hi = none → vhi = none) {n cap l h : Nat} (hl : boundOf lo 0 = some l) (hh : boundOf hi n = some h) (h1 : l ≤ h) (h2 : h ≤ n) (h3 : n ≤ cap) (b : Bool) :
    (Instr.sliceBounds b n cap vlo vhi none).run P c.w = .ok (l, h, cap) c.w := by
  have a1 := boundOf_run (P := P) hhi hhi0 hh (y := cap) (code := if b then .sliceAcap else .sliceAlen) (by omega)
  have a2 := boundOf_run (P := P) hlo hlo0 hl (y := h) (code := .sliceB) h1
  unfold Instr.sliceBounds
  cases hvh : vhi with
  | none =>
    have := a1.2 hvh
    subst this
    cases hvl : vlo with
    | none => have := a2.2 hvl; subst this; simp
    | some v => simp [a2.1 v hvl]
  | some vh =>
    cases hvl : vlo with
    | none => have := a2.2 hvl; subst this; simp [a1.1 vh hvh]
    | some v => simp [a1.1 vh hvh, a2.1 v hvl]

theorem ok_slice (hs : Sim c H) {t : Nat} {x : PV} {v : Value} (hx : Rel c false x v) {lo hi mx : Option PV} {vlo vhi vmx : Option Value} (hlo : ∀ p, lo = some p → ∃ v, vlo = some v ∧ Rel c false p v) (hlo0 : lo = none → vlo = none)
    (hhi : ∀ p, hi = some p → ∃ v, vhi = some v ∧ Rel c false p v) (hhi0 : hi = none → vhi = none) (hmx0 : mx = none → vmx = none) {r : Res} (h : sSlice P H t x lo hi mx = some r) :
    OpOk c H (((do pure (Next.value (← Instr.sliceAt t v vlo vhi vmx))) : Sem Next).run P c.w) r := by
  unfold sSlice at h
  split at h
  · rename_i e s xs he
    obtain rfl := hmx0 rfl
    obtain ⟨inf, hinf⟩ := elemI_info he
    rcases elemI_inv he with ⟨_, hu⟩ | ⟨n, hn, _⟩
    · split at h
      · rename_i l hh hl1 hh1
        split at h
        · rename_i hc
          obtain ⟨c3, c1, c2⟩ := hc
          simp only [Option.some.injEq] at h
          subst h
          have hseq : s = inf.size := by rw [← c3, cellsOf_info hinf]
          subst hseq
          cases hx with
          | slnil _ a =>
            simp only [List.length_nil] at hh1 c2
            have hb := run_sliceBounds (P := P) hlo hlo0 hhi hhi0 hl1 hh1 c1 c2 (Nat.le_refl _) true
            have h0 : hh = 0 := by omega
            have l0 : l = 0 := by omega
            subst h0; subst l0
            refine .pure hs (v := .slice a 0 0) ?_ (.slnil _ _) rfl
            simp [Instr.sliceAt, Instr.slice, run_underlying hu, hb, run_sizeOf' hinf]
          | sl kb off cap cells et fr hA hhp hz hcap hss h1 h2 =>
            have hb := run_sliceBounds (P := P) hlo hlo0 hhi hhi0 hl1 hh1 c1 c2 hcap true
            have hlen : ((xs.drop l).take (hh - l)).length = hh - l := by simp; omega
            by_cases hcl : cap = l
            · have : hh = l := by omega
              subst this
              subst hcl
              refine .pure hs (v := .slice (some ⟨kb, off, none⟩) 0 0) ?_ ?_ rfl
              · simp [Instr.sliceAt, Instr.slice, run_underlying hu, hb, run_sizeOf' hinf]
              · simp only [Nat.sub_self, List.take_zero]; exact .slnil _ _
            · by_cases hemp : xs = []
              · subst hemp
                simp only [List.length_nil] at c2 hb
                have h0 : hh = 0 := by omega
                have l0 : l = 0 := by omega
                subst h0; subst l0
                refine .pure hs (v := .slice (some ⟨kb, off + 0 * inf.size, none⟩) 0 cap) ?_ ?_ rfl
                · simp [Instr.sliceAt, Instr.slice, run_underlying hu, hb, run_sizeOf' hinf, Addr.add_lit, hcl]
                · exact .sl (xs := []) kb (off + 0 * inf.size) cap cells et fr hA hhp (by simpa using hz) (by simp) (fun i x hx => by simp at hx) (fun i x j y v hx => by simp at hx) (fun i x j y v hx => by simp at hx)
              · have hpos : 0 < xs.length := List.length_pos_iff.2 hemp
                refine .pure hs (v := .slice (some ⟨kb, off + l * inf.size, none⟩) (hh - l) (cap - l)) ?_ ?_ rfl
                · simp [Instr.sliceAt, Instr.slice, run_underlying hu, hb, run_sizeOf' hinf, Addr.add_lit, hcl]
                · have hge : ∀ (i : Nat) x, ((xs.drop l).take (hh - l))[i]? = some x → xs[l + i]? = some x := fun i x hx => by
                    rw [List.getElem?_take] at hx
                    split at hx
                    · rwa [List.getElem?_drop] at hx
                    · cases hx
                  have hre := Rel.sl (c := c) (cl := false) (s := inf.size) (xs := (xs.drop l).take (hh - l)) kb (off + l * inf.size) (cap - l) cells et fr hA hhp
                    (by
                      rw [hlen]
                      have : (l + (hh - l)) * inf.size ≤ xs.length * inf.size := Nat.mul_le_mul_right _ (by omega)
                      rw [Nat.add_mul] at this; omega) (by rw [hlen]; omega)
                    (fun i x hx => hss (l + i) x (hge i x hx))
                    (fun i x j y v hx hy hv => h1 (l + i) x j y v (hge i x hx) hy (by rw [Nat.add_mul]; rw [← hv]; congr 1; omega))
                    (fun i x j y v hx hy hv => h2 (l + i) x j y v (hge i x hx) hy (by rw [Nat.add_mul]; rw [← hv]; congr 1; omega))
                  rw [hlen] at hre
                  exact hre
        · cases h
      · cases h
    · cases hn
  · rename_i e b g s st n he
    obtain rfl := hmx0 rfl
    obtain ⟨inf, hinf⟩ := elemI_info he
    rcases elemI_inv he with ⟨_, hu⟩ | ⟨n, hn, _⟩
    · split at h
      · rename_i l hh hl1 hh1
        split at h
        · rename_i hc
          obtain ⟨c0, c1, c2, c3⟩ := hc
          simp only [Option.some.injEq] at h
          subst h
          have hss : inf.size = s := by rw [← c1, cellsOf_info hinf]
          rcases hx.bsl_inv hs c0 with ⟨kb, cells, et, fr, cap, hk, hhp, rfl, h5, h6⟩ | ⟨rfl, a, rfl⟩
          · have hb := run_sliceBounds (P := P) hlo hlo0 hhi hhi0 hl1 hh1 c2 c3 h5 true
            by_cases hcl : cap = l
            · have : hh = l := by omega
              subst this
              subst hcl
              refine .pure hs (v := .slice (some ⟨kb, st * s, none⟩) 0 0) ?_ ?_ rfl
              · simp [Instr.sliceAt, Instr.slice, run_underlying hu, hb, run_sizeOf' hinf]
              · exact Rel.bsl_mk hs c0 (.inr ⟨by omega, _, rfl⟩)
            · refine .pure hs (v := .slice (some ⟨kb, (st + l) * s, none⟩) (hh - l) (cap - l)) ?_ ?_ rfl
              · simp [Instr.sliceAt, Instr.slice, run_underlying hu, hb, run_sizeOf' hinf, Addr.add_lit, hcl, hss, Nat.add_mul]
              · refine Rel.bsl_mk hs c0 (.inl ⟨kb, cells, et, fr, cap - l, hk, hhp, rfl, by omega, ?_⟩)
                have : st + l + (cap - l) = st + cap := by omega
                rw [this]; exact h6
          · have hb := run_sliceBounds (P := P) hlo hlo0 hhi hhi0 hl1 hh1 c2 c3 (Nat.le_refl _) true
            have h0 : hh = 0 := by omega
            have l0 : l = 0 := by omega
            subst h0; subst l0
            refine .pure hs (v := .slice a 0 0) ?_ (Rel.bsl_mk hs c0 (.inr ⟨rfl, a, rfl⟩)) rfl
            simp [Instr.sliceAt, Instr.slice, run_underlying hu, hb, run_sizeOf' hinf]
        · cases h
      · cases h
    · cases hn
  · rename_i m e b g s i p he
    obtain rfl := hmx0 rfl
    obtain ⟨inf, hinf⟩ := elemI_info he
    rcases elemI_inv he with ⟨hn, _⟩ | ⟨n, hn, hu⟩
    · cases hn
    · simp only [EK.array.injEq] at hn
      subst hn
      split at h
      · rename_i y xs hb
        obtain ⟨g1, g2, g3⟩ := boxArr_inv hb
        split at h
        · rename_i x' hx'
          split at h
          · rename_i l hh hl1 hh1
            split at h
            · rename_i hc
              obtain ⟨c0, c1, c2, c3, c4⟩ := hc
              simp only [Option.some.injEq] at h
              subst h
              have hs1 : inf.size = 1 := by rw [← c0, cellsOf_info hinf]
              obtain ⟨k, hk, rfl⟩ := hx.ptr_inv hs (cur_of g1 g2)
              obtain ⟨cells, et, fr, f1, f2, f3, f4, f5⟩ := (row_of hs g1 g3 hk).ex
              have hb' := run_sliceBounds (P := P) hlo hlo0 hhi hhi0 hl1 hh1 c1 c2 (Nat.le_refl _) false
              obtain ⟨c', q1, q2, q3, q4, q5, q6, q7⟩ := hs.freeze g1
              have hlv : y.live = true := by simp [Box.live, g3]
              have hil := (List.getElem?_eq_some_iff.1 hx').1
              have hxl := f4 i x' hx'
              have hroom := elem_room f3 hil
              have hlen : ((((x'.cells.drop p).take m).drop l).take (hh - l)).length = hh - l := by simp; omega
              have hget : ∀ (j : Nat) q, ((((x'.cells.drop p).take m).drop l).take (hh - l))[j]? = some q → x'.cells[p + l + j]? = some q ∧ q.cellB = true ∧ q.closed = true := by
                intro j q hq
                have hmem := List.mem_of_mem_drop (List.mem_of_mem_take (List.mem_of_getElem? hq))
                have hgood := List.all_eq_true.1 c4 q hmem
                simp only [Bool.and_eq_true] at hgood
                rw [List.getElem?_take] at hq
                split at hq
                · rw [List.getElem?_drop, List.getElem?_take] at hq
                  split at hq
                  · rw [List.getElem?_drop] at hq
                    exact ⟨by rw [← hq]; congr 1; omega, hgood⟩
                  · cases hq
                · cases hq
              have hone : ∀ q : PV, q.cellB = true → q.cells = [q] := fun q hq => by cases q <;> simp_all [PV.cells, PV.cellB]
              have hrel : Rel c' false (.sl 1 ((((x'.cells.drop p).take m).drop l).take (hh - l))) (.slice (some ⟨k, i * s + p + l, none⟩) (hh - l) (m - l)) := by
                have := Rel.sl (c := c') (cl := false) (s := 1) (xs := (((x'.cells.drop p).take m).drop l).take (hh - l)) k (i * s + p + l) (m - l) cells et fr (q4 k hlv hk) (by rw [q1]; exact f1) (by rw [hlen]; omega) (by rw [hlen]; omega)
                  (fun j q hq => by rw [hone q (hget j q hq).2.1]; rfl)
                  (fun j q j' z v hq hz hv => by
                    rw [hone q (hget j q hq).2.1] at hz
                    cases j' with
                    | zero =>
                      simp at hz; subst hz
                      exact (f5 i x' (p + l + j) q v hx' (hget j q hq).1 (by rw [← hv]; congr 1; omega)).1
                    | succ j' => simp at hz)
                  (fun j q j' z v hq hz hv => by
                    rw [hone q (hget j q hq).2.1] at hz
                    cases j' with
                    | zero =>
                      simp at hz; subst hz
                      exact ((f5 i x' (p + l + j) q v hx' (hget j q hq).1 (by rw [← hv]; congr 1; omega)).2.mono q5).toClosed (hget j q hq).2.2
                    | succ j' => simp at hz)
                rw [hlen] at this
                exact this
              by_cases hcl : m = l
              · have hhl : hh = l := by omega
                subst hhl
                subst hcl
                refine ⟨.value (.slice (some ⟨k, i * s + p, none⟩) 0 0), _, c', ?_, .inl rfl, ?_, q6, q7⟩
                · rw [q1]; simp [Instr.sliceAt, run_underlying hu, hb', run_sizeOf' hinf, Instr.sureAddr]
                · simp only [Nat.sub_self, List.take_zero]; exact .slnil _ _
              · refine ⟨.value (.slice (some ⟨k, i * s + p + l, none⟩) (hh - l) (m - l)), _, c', ?_, .inl rfl, hrel, q6, q7⟩
                rw [q1]; simp [Instr.sliceAt, run_underlying hu, hb', run_sizeOf' hinf, Instr.sureAddr, hcl, hs1, Addr.add_lit]
            · cases h
          · cases h
        · cases h
      · cases h
  · cases h

end
end Pv
set_option linter.unusedSimpArgs false
set_option linter.unusedVariables false
namespace Pv
open Go

section
variable {P : Program} {c : Cx} {H : FH}

theorem news_of {cells : Array Value} {off s : Nat} {xs : List PV} (hsz : off + xs.length * s ≤ cells.size) (hlen : ∀ (i : Nat) x, xs[i]? = some x → x.cells.length = s)
    (hrel : ∀ (i : Nat) x (j : Nat) y v, xs[i]? = some x → x.cells[j]? = some y → cells[off + i * s + j]? = some v → v.oneCell' = true ∧ Rel c false y v) (hs0 : 0 < s) :
    ((cells.toList.drop off).take (xs.length * s)).length = xs.length * s ∧ (∀ (j : Nat) u, ((cells.toList.drop off).take (xs.length * s))[j]? = some u → cells[off + j]? = some u) ∧
    RowOk c ((cells.toList.drop off).take (xs.length * s)).toArray s xs ∧ ∀ u ∈ (cells.toList.drop off).take (xs.length * s), u.oneCell' = true := by
  have hl : ((cells.toList.drop off).take (xs.length * s)).length = xs.length * s := by simp; omega
  have hg : ∀ (j : Nat) u, ((cells.toList.drop off).take (xs.length * s))[j]? = some u → cells[off + j]? = some u := fun j u hu => by
    rw [List.getElem?_take] at hu
    split at hu
    · rw [List.getElem?_drop] at hu; simpa using hu
    · cases hu
  refine ⟨hl, hg, ⟨by simp only [List.size_toArray]; exact hl, hlen, fun i x j y v hx hy hv => ?_⟩, fun u hu => ?_⟩
  · have := hg (i * s + j) v (by simpa using hv)
    exact hrel i x j y v hx hy (by rw [Nat.add_assoc]; exact this)
  · obtain ⟨q, hq⟩ := List.mem_iff_getElem?.1 hu
    have hql := (List.getElem?_eq_some_iff.1 hq).1
    rw [hl] at hql
    have hi : q / s < xs.length := Nat.div_lt_of_lt_mul (by rw [Nat.mul_comm]; exact hql)
    have hj : q % s < s := Nat.mod_lt _ hs0
    have hqe : q / s * s + q % s = q := by rw [Nat.mul_comm]; exact Nat.div_add_mod q s
    have hx := List.getElem?_eq_getElem hi
    have hxl := hlen _ _ hx
    exact (hrel (q / s) _ (q % s) _ u hx (List.getElem?_eq_getElem (by omega)) (by rw [Nat.add_assoc, hqe]; exact hg q u hq)).1

structure Src (c : Cx) (v : Value) (s : Nat) (ys : List PV) (news : List Value) : Prop where
  ex : ∃ a cap, v = .slice a ys.length cap ∧ (a = none → ys.length = 0) ∧ ∀ ad, a = some ad → ∀ (j : Nat) u, news[j]? = some u → c.w.cell? (ad.add j) = some u
  len : news.length = ys.length * s
  row : RowOk c news.toArray s ys
  one : ∀ u ∈ news, u.oneCell' = true

theorem row_nil (s : Nat) : RowOk c (#[] : Array Value) s [] := ⟨by simp, fun i x h => by simp at h, fun i x j y v h => by simp at h⟩

theorem okElem_len {x : PV} {n : Nat} (h : okElem x n = true) : x.cells.length = n := by
  simp only [okElem, Bool.and_eq_true, beq_iff_eq] at h; exact h.1

theorem src_of (hs : Sim c H) {y : PV} {v : Value} (hy : Rel c false y v) {ys : List PV} {ids : List Nat} {s : Nat} (h : sAppend.srcOf H s y = some (ys, ids)) (hs0 : 0 < s) :
    ∃ news, Src c v s ys news := by
  unfold sAppend.srcOf at h
  split at h
  · rename_i s' xs
    split at h
    · rename_i hss'
      subst hss'
      simp only [Option.some.injEq, Prod.mk.injEq] at h
      obtain ⟨rfl, rfl⟩ := h
      cases hy with
      | slnil _ a => exact ⟨[], ⟨⟨a, 0, rfl, fun _ => rfl, fun ad _ j u hu => by simp at hu⟩, by simp, row_nil s', fun u hu => by simp at hu⟩⟩
      | sl kb off cap cells et fr hA hh hz hcap hss h1 h2 =>
        obtain ⟨n1, n2, n3, n4⟩ := news_of (c := c) hz hss (fun i x j y v a b d => ⟨h1 i x j y v a b d, (h2 i x j y v a b d).open⟩) hs0
        exact ⟨_, ⟨⟨_, cap, rfl, fun h => by simp at h, fun ad had j u hu => by cases had; rw [Addr.add_lit, cell_of_row c.w kb _ cells et fr hh]; exact n2 j u hu⟩, n1, n3, n4⟩⟩
    · cases h
  · simp only [Option.some.injEq, Prod.mk.injEq] at h
    obtain ⟨rfl, rfl⟩ := h
    cases hy with
    | nils => exact ⟨[], ⟨⟨none, 0, rfl, fun _ => rfl, fun ad _ j u hu => by simp at hu⟩, by simp, row_nil s, fun u hu => by simp at hu⟩⟩
  · rename_i b g s' st n
    split at h
    · rename_i z xs hb
      obtain ⟨g1, g2, g3⟩ := boxArr_inv hb
      split at h
      · rename_i hfit
        obtain ⟨rfl, hfit⟩ := hfit
        simp only [Option.some.injEq, Prod.mk.injEq] at h
        obtain ⟨rfl, rfl⟩ := h
        have hlen : ((xs.drop st).take n).length = n := by simp; omega
        rcases hy.bsl_inv hs (cur_of g1 g2) with ⟨kb, cells, et, fr, cap, hk, hh, rfl, h5, h6⟩ | ⟨rfl, a, rfl⟩
        · obtain ⟨cells', e', fr', f1, f2, f3, f4, f5⟩ := (row_of hs g1 g3 hk).ex
          rw [hh] at f1; cases f1
          have hge : ∀ (i : Nat) x, ((xs.drop st).take n)[i]? = some x → xs[st + i]? = some x := fun i x hx => by
            rw [List.getElem?_take] at hx
            split at hx
            · rwa [List.getElem?_drop] at hx
            · cases hx
          have hz : st * s' + ((xs.drop st).take n).length * s' ≤ cells.size := by
            rw [hlen, ← Nat.add_mul]
            exact Nat.le_trans (Nat.mul_le_mul_right _ hfit) f3
          obtain ⟨n1, n2, n3, n4⟩ := news_of (c := c) (cells := cells) (off := st * s') hz (fun i x hx => f4 _ x (hge i x hx)) (fun i x j y v a b d => f5 (st + i) x j y v (hge i x a) b (by rw [Nat.add_mul]; exact d)) hs0
          rw [hlen] at n1 n2 n3 n4
          refine ⟨_, ⟨⟨_, cap, by rw [hlen], fun h => by simp at h, fun ad had j u hu => ?_⟩, by rw [hlen]; exact n1, n3, n4⟩⟩
          cases had; rw [Addr.add_lit, cell_of_row c.w kb _ cells et fr hh]; exact n2 j u hu
        · exact ⟨[], ⟨⟨a, 0, by simp, fun _ => by simp, fun ad _ j u hu => by simp at hu⟩, by simp, by simp only [List.take_zero]; exact row_nil s', fun u hu => by simp at hu⟩⟩
      · cases h
    · cases h
  · cases h

section runs
variable {w : World} {t t2 ty e e2 : TypeId} {i : TypeInfo}

theorem run_app_room (ht : P.underlying t = some (.slice e)) (ht2 : P.underlying t2 = some (.slice e2)) (hi : P.info? e = some i) (g sLen sCap : Nat) (cur : Array Value) (t' : TypeId) (hg : w.heap[g]? = some (.cells cur t' (0, 0)))
    {va : Option Addr} {m cap : Nat} {news : List Value} (hl : news.length = m * i.size) (hnone : va = none → m = 0) (hnews : ∀ ad, va = some ad → ∀ (j : Nat) u, news[j]? = some u → w.cell? (ad.add j) = some u) (h1 : ∀ u ∈ news, u.oneCell' = true)
    (hroom : sLen + m ≤ sCap) (hfit : sLen * i.size + news.length ≤ cur.size) :
    (Builtin.append_ #[t, t2] ty #[.slice (some ⟨g, 0, none⟩) sLen sCap, .slice va m cap]).run P w =
      .ok (.slice (some ⟨g, 0, none⟩) (sLen + m) sCap) (w.setRow g (cur.toList.take (sLen * i.size) ++ news ++ cur.toList.drop (sLen * i.size + news.length)).toArray) := by
  have hst := run_storeCells_at P g (sLen * i.size) t' news 0 cur w hg (by simpa using hfit) h1
  simp only [Nat.add_zero] at hst
  have hf : (Builtin.firstCells i.size m (.slice va m cap)).run P w = .ok news.toArray w := by
    cases va with
    | none =>
      obtain rfl := hnone rfl
      have : news = [] := List.eq_nil_of_length_eq_zero (by simpa using hl)
      subst this; rfl
    | some ad => exact run_firstCells_some (P := P) w i.size m ad m cap news hl (hnews ad rfl)
  simp [Builtin.append_, run_underlying ht, run_underlying ht2, run_sizeOf' hi, Builtin.lenOf, hroom, hf, Addr.add_lit, hst]

theorem run_app_none (ht : P.underlying t = some (.slice e)) (ht2 : P.underlying t2 = some (.slice e2)) (hi : P.info? e = some i) (a va : Option Addr) (cap : Nat) :
    (Builtin.append_ #[t, t2] ty #[.slice a 0 0, .slice va 0 cap]).run P w = .ok (.slice a 0 0) w := by
  have hf : (Builtin.firstCells i.size 0 (.slice va 0 cap)).run P w = .ok #[] w := by cases va <;> simp [Builtin.firstCells, loadCells, loadCellsFrom]
  cases a <;> simp [Builtin.append_, run_underlying ht, run_underlying ht2, run_sizeOf' hi, Builtin.lenOf, hf, storeCells]

theorem run_app_grow {z : Value} (ht : P.underlying t = some (.slice e)) (ht2 : P.underlying t2 = some (.slice e2)) (hi : P.info? e = some i) (hz : i.zero = some z)
    {b : Option Addr} (sLen sCap : Nat) (olds : List Value) (hlo : olds.length = sLen * i.size) (hbn : b = none → sLen = 0) (holds : ∀ ad, b = some ad → ∀ (j : Nat) v, olds[j]? = some v → w.cell? (ad.add j) = some v)
    {va : Option Addr} {m cap : Nat} {news : List Value} (hl : news.length = m * i.size) (hnone : va = none → m = 0) (hnews : ∀ ad, va = some ad → ∀ (j : Nat) u, news[j]? = some u → w.cell? (ad.add j) = some u)
    (hg : sCap < sLen + m) (h63 : ((sLen + m : Nat) : Int) ≤ 9223372036854775807) (hfit : Builtin.nextslicecap (sLen + m) sCap * i.bytes ≤ 281474976710656) :
    (Builtin.append_ #[t, t2] ty #[.slice b sLen sCap, .slice va m cap]).run P w =
      .ok (.slice (some ⟨w.heap.size, 0, none⟩) (sLen + m) (grownCap w (sLen + m) sCap e))
        (w.drew.alloc (.cells (olds.toArray ++ news.toArray ++ Builtin.zeroCells z.cells (grownCap w (sLen + m) sCap e - (sLen + m))) e)) := by
  have hn : ¬ (sLen + m ≤ sCap) := by omega
  have h63' : ¬ (9223372036854775807 < ((sLen : Int) + (m : Int))) := by omega
  have h48' : ¬ (281474976710656 < Builtin.nextslicecap (sLen + m) sCap * i.bytes) := by omega
  have hf : (Builtin.firstCells i.size m (.slice va m cap)).run P w.drew = .ok news.toArray w.drew := by
    cases va with
    | none =>
      obtain rfl := hnone rfl
      have : news = [] := List.eq_nil_of_length_eq_zero (by simpa using hl)
      subst this; rfl
    | some ad => exact run_firstCells_some (P := P) w.drew i.size m ad m cap news hl (hnews ad rfl)
  have hfo : (Builtin.firstCells i.size sLen (.slice b sLen sCap)).run P w.drew = .ok olds.toArray w.drew := by
    cases b with
    | none =>
      obtain rfl := hbn rfl
      have : olds = [] := List.eq_nil_of_length_eq_zero (by simpa using hlo)
      subst this; rfl
    | some ad => exact run_firstCells_some (P := P) w.drew i.size sLen ad sLen sCap olds hlo (holds ad rfl)
  simp [Builtin.append_, run_underlying ht, run_underlying ht2, Go.sizeOf, typeInfo, zeroValue, hi, hz, Builtin.lenOf, hn, h63', h48', Question.forced, hf, hfo, newRow, grownCap]
  congr 2
  apply Array.ext'
  simp [List.append_assoc]
end runs

theorem row_append {A B : Array Value} {s : Nat} {xs ys : List PV} (ha : RowOk c A s xs) (hb : RowOk c B s ys) (Z : Array Value) :
    (∀ (i : Nat) x, (xs ++ ys)[i]? = some x → x.cells.length = s) ∧ (∀ (i : Nat) x (j : Nat) y v, (xs ++ ys)[i]? = some x → x.cells[j]? = some y → (A ++ B ++ Z)[i * s + j]? = some v → v.oneCell' = true ∧ Rel c false y v) := by
  have hla := ha.size
  have hlb := hb.size
  have hlen : ∀ (i : Nat) x, (xs ++ ys)[i]? = some x → x.cells.length = s := fun i x hx => by
    rw [List.getElem?_append] at hx
    split at hx
    · exact ha.len i x hx
    · exact hb.len _ x hx
  refine ⟨hlen, fun i x j y v hx hy hv => ?_⟩
  have hjs : j < s := by
    have := (List.getElem?_eq_some_iff.1 hy).1
    have := hlen i x hx
    omega
  rw [List.getElem?_append] at hx
  split at hx
  · rename_i hi
    have hroom := elem_room (s := s) (n := xs.length) (sz := A.size) (by omega) hi
    rw [Array.append_assoc, Array.getElem?_append, if_pos (by omega)] at hv
    exact ha.rel i x j y v hx hy hv
  · rename_i hi
    have hil := (List.getElem?_eq_some_iff.1 hx).1
    have hroom := elem_room (s := s) (n := ys.length) (sz := B.size) (by omega) hil
    have hmul : i * s = xs.length * s + (i - xs.length) * s := by rw [← Nat.add_mul]; congr 1; omega
    rw [Array.append_assoc, Array.getElem?_append, if_neg (by omega), Array.getElem?_append, if_pos (by omega)] at hv
    exact hb.rel (i - xs.length) x j y v hx hy (by rw [← hv]; congr 1; omega)

theorem append_empty (hs : Sim c H) {t t2 ty e e2 : TypeId} (ht : P.underlying t = some (.slice e)) (ht2 : P.underlying t2 = some (.slice e2)) {i : TypeInfo} (hi : P.info? e = some i) {z : Value} (hz : i.zero = some z) {s : Nat} (hsz : i.size = s)
    (hzs : z.cells.size = s) (hs0 : 0 < s) {v : Value} {ys : List PV} {news : List Value} (hsrc : Src c v s ys news) (h63 : ys.length ≤ maxLen) (hby : ys.length * i.bytes ≤ 140737488355328) (a : Option Addr) (b g' : Nat)
    (hg : ∀ x, H b = some x → x.gen < g') (ids : List Nat) :
    OpOk c H (((do pure (Next.value (← Builtin.append_ #[t, t2] ty #[.slice a 0 0, v]))) : Sem Next).run P c.w) { v := .bsl b g' s 0 ys.length, rd := ids, wr := [(b, ⟨g', true, .arr s ys⟩)] } := by
  subst hsz
  obtain ⟨va, cap, rfl, hnone, hnews⟩ := hsrc.ex
  by_cases hm : ys.length = 0
  · have hys : ys = [] := List.eq_nil_of_length_eq_zero hm
    subst hys
    obtain ⟨c', h1, h2, h3, h4, h5⟩ := hs.virt b g' hg ⟨g', true, .arr i.size []⟩ rfl (.inl ⟨_, rfl⟩)
    refine ⟨.value (.slice a 0 0), .slice a 0 0, c', ?_, .inl rfl, .bsl _ rfl h2 (Nat.le_refl _) fun _ => .inr ⟨rfl, a, rfl⟩, h4, h5⟩
    rw [h1]
    have hr := run_app_none (P := P) (w := c.w) (ty := ty) ht ht2 hi a va cap
    simp only [List.length_nil, Sem.run_bind, hr, Result.andThen_ok, Sem.run_pure]
  · have hr := run_app_grow (P := P) (w := c.w) (ty := ty) ht ht2 hi hz (b := a) 0 0 [] (by simp) (fun _ => rfl) (fun ad _ j v h => by simp at h) (va := va) (m := ys.length) (cap := cap) hsrc.len hnone hnews (by omega) (by simp only [maxLen] at h63; omega)
      (growslice_fits (by omega) (by simpa using hby))
    simp only [Nat.zero_add] at hr
    have hge := grownCap_ge c.w ys.length 0 e
    have hrow := row_append (c := c) (row_nil i.size) hsrc.row (Builtin.zeroCells z.cells (grownCap c.w ys.length 0 e - ys.length))
    simp only [List.nil_append] at hrow
    have hcsz : (#[] ++ news.toArray ++ Builtin.zeroCells z.cells (grownCap c.w ys.length 0 e - ys.length)).size = grownCap c.w ys.length 0 e * i.size := by
      simp only [Array.size_append, List.size_toArray, size_zeroCells, hzs, hsrc.len, List.length_nil, Nat.zero_add, ← Nat.add_mul]
      congr 1
      omega
    obtain ⟨c', h1, h2, h3, h4, h5, h6⟩ := hs.fresh b g' hg (w' := c.w.drew.alloc (.cells (#[] ++ news.toArray ++ Builtin.zeroCells z.cells (grownCap c.w ys.length 0 e - ys.length)) e)) rfl rfl rfl rfl (s := i.size) (xs' := ys)
      (by rw [hcsz]; exact Nat.mul_le_mul_right _ hge) hrow.1 hrow.2
    refine ⟨.value (.slice (some ⟨c.w.heap.size, 0, none⟩) ys.length (grownCap c.w ys.length 0 e)), _, c', ?_, .inl rfl, ?_, h5, h6⟩
    · rw [h1]
      simp only [Sem.run_bind, hr, Result.andThen_ok, Sem.run_pure]
    · refine .bsl _ rfl h3 (Nat.le_refl _) fun _ => .inl ⟨c.w.heap.size, _, e, (0, 0), _, h2, ?_, by simp, hge, by rw [hcsz]; simp⟩
      rw [h1]; show (c.w.heap.push _)[c.w.heap.size]? = _; simp

theorem ok_append (hs : Sim c H) {d t t2 ty : Nat} {x y : PV} {vx vy : Value} (hx : Rel c false x vx) (hy : Rel c false y vy) {r : Res} (h : sAppend P H d t t2 x y = some r) :
    OpOk c H (((do pure (Next.value (← Builtin.append_ #[t, t2] ty #[vx, vy]))) : Sem Next).run P c.w) r := by
  unfold sAppend at h
  split at h
  · rename_i e e' he he'
    rcases elemI_inv he with ⟨_, hu⟩ | ⟨n, hn, _⟩
    · rcases elemI_inv he' with ⟨_, hu2⟩ | ⟨n, hn, _⟩
      · split at h
        · rename_i ti ys ids ht hsrc
          split at hsrc
          · rename_i hee
            split at h
            · rename_i hc
              obtain ⟨hok, hs0⟩ := hc
              obtain ⟨inf, z, i1, i2, i3, i4, i5⟩ := zero_rel ht hok
              rw [cellsOf_info i1, i3] at hsrc
              obtain ⟨news, hsr⟩ := src_of hs hy hsrc hs0
              have hzs : z.cells.size = ti.size := (okElem_cells hok (i5 c)).1
              split at h
              · split at h
                · rename_i hb
                  simp only [Option.some.injEq] at h
                  subst h
                  cases hx with
                  | nils => exact append_empty hs hu hu2 i1 i2 i3 hzs hs0 hsr hb.2 (by rw [i4]; exact hb.1) none d (genOf H d) genOf_lt _
                · cases h
              · rename_i b g s st n
                split at h
                · rename_i bx xs hbx
                  obtain ⟨g1, g2, g3⟩ := boxArr_inv hbx
                  split at h
                  · rename_i hb
                    obtain ⟨hown, hss, rfl, hnx, hbytes, h63⟩ := hb
                    simp only [Option.some.injEq] at h
                    subst h
                    rw [hss] at g3 hx hbx ⊢
                    have hgg : ∀ x, H b = some x → x.gen < g + 1 := fun x hx => by rw [g1] at hx; cases hx; omega
                    rcases hx.bsl_inv hs (cur_of g1 g2) with ⟨kb, cells, et, fr, cap, hk, hh, rfl, h5, h6⟩ | ⟨rfl, a, rfl⟩
                    · obtain ⟨cells', e', fr', f1, f2, f3, f4, f5⟩ := (row_of hs g1 g3 hk).ex
                      rw [hh] at f1; cases f1
                      obtain rfl := f2 hown
                      have hl : bx.live = true := by simp [Box.live, g3]
                      obtain ⟨va, capy, hvy, hnone, hnews⟩ := hsr.ex
                      subst hvy
                      have htk : (xs.take n).length = n := by simp; omega
                      have htg : ∀ (i : Nat) x, (xs.take n)[i]? = some x → xs[i]? = some x := fun i x hx => by
                        rw [List.getElem?_take] at hx
                        split at hx
                        · exact hx
                        · cases hx
                      simp only [Nat.zero_add, Nat.zero_mul] at h6 ⊢
                      have hncap : n * ti.size ≤ cap * ti.size := Nat.mul_le_mul_right _ h5
                      obtain ⟨o1, o2, o3, o4⟩ := news_of (c := c) (cells := cells) (off := 0) (s := ti.size) (xs := xs.take n) (by rw [htk]; omega) (fun i x hx => f4 i x (htg i x hx)) (fun i x j y v a b d => f5 i x j y v (htg i x a) b (by simpa using d)) hs0
                      rw [htk] at o1 o2 o3 o4
                      simp only [List.drop_zero, Nat.zero_add] at o1 o2 o3 o4
                      by_cases hroom : n + ys.length ≤ cap
                      · have hfit : n * inf.size + news.length ≤ cells.size := by
                          rw [i3, hsr.len, ← Nat.add_mul]
                          exact Nat.le_trans (Nat.mul_le_mul_right _ hroom) h6
                        have hr := run_app_room (P := P) (w := c.w) (ty := ty) hu hu2 i1 kb n cap cells et hh (va := va) (m := ys.length) (cap := capy) (news := news) (by rw [i3]; exact hsr.len) hnone hnews hsr.one hroom hfit
                        rw [i3] at hr hfit
                        have hrow := row_append (c := c) o3 hsr.row (cells.toList.drop (n * ti.size + news.length)).toArray
                        have happ : (cells.toList.take (n * ti.size)).toArray ++ news.toArray ++ (cells.toList.drop (n * ti.size + news.length)).toArray = (cells.toList.take (n * ti.size) ++ news ++ cells.toList.drop (n * ti.size + news.length)).toArray := by simp
                        rw [happ] at hrow
                        obtain ⟨c', q1, q2, q3, q4, q5, q6⟩ := hs.write g1 hown hl hk hh (cells' := (cells.toList.take (n * ti.size) ++ news ++ cells.toList.drop (n * ti.size + news.length)).toArray)
                          (by simp; omega) (g + 1) (by omega) (s := ti.size) (xs' := xs.take n ++ ys)
                          (by rw [List.length_append, htk]; exact Nat.le_trans (Nat.mul_le_mul_right _ hroom) h6) hrow.1 hrow.2
                        refine ⟨.value (.slice (some ⟨kb, 0, none⟩) (n + ys.length) cap), _, c', ?_, .inl rfl, ?_, q5, q6⟩
                        · rw [q1]
                          simp only [Sem.run_bind, hr, Result.andThen_ok, Sem.run_pure]
                        · refine .bsl _ rfl q3 (Nat.le_refl _) fun _ => .inl ⟨kb, _, et, (0, 0), cap, by rw [q2]; exact hk, by rw [q1]; exact setRow_heap c.w kb cells _ et (0, 0) hh, by simp, hroom, ?_⟩
                          simp; omega
                      · have hr := run_app_grow (P := P) (w := c.w) (ty := ty) hu hu2 i1 i2 (b := some ⟨kb, 0, none⟩) n cap (cells.toList.take (n * ti.size)) (by rw [i3]; exact o1) (fun h => by cases h)
                          (fun ad had j v hv => by cases had; rw [Addr.add_lit, cell_of_row c.w kb _ cells et (0, 0) hh]; simpa using o2 j v hv)
                          (va := va) (m := ys.length) (cap := capy) (news := news) (by rw [i3]; exact hsr.len) hnone hnews (by omega) (by simp only [maxLen] at h63; omega) (growslice_fits (by omega) (by rw [i4]; exact hbytes))
                        have hge := grownCap_ge c.w (n + ys.length) cap e
                        have hrow := row_append (c := c) o3 hsr.row (Builtin.zeroCells z.cells (grownCap c.w (n + ys.length) cap e - (n + ys.length)))
                        have hcsz : ((cells.toList.take (n * ti.size)).toArray ++ news.toArray ++ Builtin.zeroCells z.cells (grownCap c.w (n + ys.length) cap e - (n + ys.length))).size = grownCap c.w (n + ys.length) cap e * ti.size := by
                          simp only [Array.size_append, List.size_toArray, size_zeroCells, hzs, hsr.len, o1, ← Nat.add_mul]
                          congr 1; omega
                        obtain ⟨c', q1, q2, q3, q4, q5, q6⟩ := hs.fresh b (g + 1) hgg (w' := c.w.drew.alloc (.cells ((cells.toList.take (n * ti.size)).toArray ++ news.toArray ++ Builtin.zeroCells z.cells (grownCap c.w (n + ys.length) cap e - (n + ys.length))) e)) rfl rfl rfl rfl
                          (s := ti.size) (xs' := xs.take n ++ ys) (by rw [hcsz, List.length_append, htk]; exact Nat.mul_le_mul_right _ hge) hrow.1 hrow.2
                        refine ⟨.value (.slice (some ⟨c.w.heap.size, 0, none⟩) (n + ys.length) (grownCap c.w (n + ys.length) cap e)), _, c', ?_, .inl rfl, ?_, q5, q6⟩
                        · rw [q1]
                          simp only [Sem.run_bind, hr, Result.andThen_ok, Sem.run_pure]
                        · refine .bsl _ rfl q3 (Nat.le_refl _) fun _ => .inl ⟨c.w.heap.size, _, e, (0, 0), _, q2, ?_, by simp, hge, by rw [hcsz]; simp⟩
                          rw [q1]; show (c.w.heap.push _)[c.w.heap.size]? = _; simp
                    · simp only [Nat.zero_add] at hbytes h63 ⊢
                      have := append_empty hs hu hu2 (ty := ty) i1 i2 i3 hzs hs0 hsr h63 (by rw [i4]; exact hbytes) a b (g + 1) hgg (b :: ids)
                      simpa using this
                  · cases h
                · cases h
              · cases h
            · cases h
          · cases hsrc
        · cases h
      · cases hn
    · cases hn
  · cases h

end
end Pv
set_option linter.unusedSimpArgs false
set_option linter.unusedVariables false
namespace Pv
open Go

section
variable {P : Program} {c : Cx} {H : FH}

theorem zeroCells_eq (z : Array Value) (n : Nat) : Builtin.zeroCells z n = (Array.range (n * z.size)).map (z[· % z.size]!) := rfl

theorem ok_clear (hs : Sim c H) {t ty : Nat} {x : PV} {vx : Value} (hx : Rel c false x vx) {r : Res} (h : sClear P H t x = some r) :
    OpOk c H (((do pure (Next.value (← Builtin.clear_ #[t] ty #[vx]))) : Sem Next).run P c.w) r := by
  unfold sClear at h
  split at h
  · rename_i e he
    rcases elemI_inv he with ⟨_, hu⟩ | ⟨n, hn, _⟩
    · split at h
      · rename_i ti b g s st n ht
        split at h
        · rename_i bx xs hbx
          obtain ⟨g1, g2, g3⟩ := boxArr_inv hbx
          split at h
          · rename_i hc
            obtain ⟨hown, hok, hs0, hss, hfit⟩ := hc
            simp only [Option.some.injEq] at h
            subst h
            rw [hss] at g3 hx hbx ⊢
            obtain ⟨inf, z, i1, i2, i3, i4, i5⟩ := zero_rel ht hok
            obtain ⟨e1, e2, e3, e4⟩ := okElem_cells hok (i5 c)
            have hl : bx.live = true := by simp [Box.live, g3]
            have hbox : ∀ xs', ({ bx with body := .arr ti.size xs' } : Box) = ⟨bx.gen, true, .arr ti.size xs'⟩ := fun xs' => by cases bx; simp_all
            by_cases hn0 : n = 0
            · subst hn0
              have hxs : xs.take st ++ List.replicate 0 ti.zero ++ xs.drop (st + 0) = xs := by simp
              rw [hxs]
              have hupd : upd H [(b, { bx with body := .arr ti.size xs })] = H := by
                funext k
                simp only [upd]
                split
                · rename_i hk; subst hk; rw [g1]; congr 1; cases bx; simp_all
                · rfl
              refine ⟨.value (.tuple #[]), .tuple #[], c, ?_, .inl rfl, .tup (by simp) (fun i x v h => by simp at h), by rw [hupd]; exact hs, by rw [hupd]; exact .refl c H⟩
              rcases hx.bsl_inv hs (cur_of g1 g2) with ⟨kb, cells, et, fr, cap, hk, hh, rfl, h5, h6⟩ | ⟨_, a, rfl⟩
              · simp [Builtin.clear_, run_underlying hu]
              · cases a <;> simp [Builtin.clear_, run_underlying hu]
            · rcases hx.bsl_inv hs (cur_of g1 g2) with ⟨kb, cells, et, fr, cap, hk, hh, rfl, h5, h6⟩ | ⟨h0, _⟩
              · obtain ⟨cells', e', fr', f1, f2, f3, f4, f5⟩ := (row_of hs g1 g3 hk).ex
                rw [hh] at f1; cases f1
                obtain rfl := f2 hown
                have hz := zeros_row hok (i5 c) hs0 n
                rw [e1] at hz
                have hzs : (Builtin.zeroCells z.cells n).toList.length = n * ti.size := by simp [zeroCells_eq, e1]
                have hfc : st * ti.size + n * ti.size ≤ cells.size := by
                  rw [← Nat.add_mul]; exact Nat.le_trans (Nat.mul_le_mul_right _ hfit) f3
                have hone : ∀ u ∈ (Builtin.zeroCells z.cells n).toList, u.oneCell' = true := fun u hu' => by
                  simp only [zeroCells_eq, e1, Array.toList_map, List.mem_map] at hu'
                  obtain ⟨q, hq, rfl⟩ := hu'
                  have hql : q % ti.size < z.cells.size := by rw [e1]; exact Nat.mod_lt _ hs0
                  rw [getElem!_pos z.cells (q % ti.size) hql]
                  exact e4 _ (by simp)
                have hst := run_storeCells_at P kb (st * ti.size) et (Builtin.zeroCells z.cells n).toList 0 cells c.w hh (by rw [hzs]; omega) hone
                simp only [Nat.add_zero] at hst
                rw [hzs] at hst
                have hseg := seg_get cells.toList (st * ti.size) (Builtin.zeroCells z.cells n).toList (by rw [hzs]; simpa using hfc)
                rw [hzs] at hseg
                have hxseg := seg_get xs st (List.replicate n ti.zero) (by simpa using hfit)
                simp only [List.length_replicate] at hxseg
                obtain ⟨c', q1, q2, q3, q4, q5, q6⟩ := hs.write g1 hown hl hk hh (cells' := (cells.toList.take (st * ti.size) ++ (Builtin.zeroCells z.cells n).toList ++ cells.toList.drop (st * ti.size + n * ti.size)).toArray)
                  (by simp [zeroCells_eq, e1]; omega) bx.gen (Nat.le_refl _) (s := ti.size) (xs' := xs.take st ++ List.replicate n ti.zero ++ xs.drop (st + n))
                  (by
                    have : (xs.take st ++ List.replicate n ti.zero ++ xs.drop (st + n)).length = xs.length := by simp; omega
                    rw [this]; exact f3)
                  (fun i x hx => by
                    rw [hxseg] at hx
                    split at hx
                    · exact f4 i x hx
                    · split at hx
                      · rw [List.getElem?_replicate] at hx
                        split at hx
                        · simp at hx; subst hx; exact e2
                        · cases hx
                      · exact f4 i x hx)
                  (fun i x j y v hx hy hv => by
                    simp only [List.getElem?_toArray] at hv
                    rw [hseg] at hv
                    rw [hxseg] at hx
                    have hold : xs[i]? = some x → ¬ (st ≤ i ∧ i < st + n) → v.oneCell' = true ∧ Rel c false y v := fun hx hni => by
                      have hjs : j < ti.size := by
                        have := (List.getElem?_eq_some_iff.1 hy).1
                        have := f4 i x hx
                        omega
                      have hni' : ¬ (st * ti.size ≤ i * ti.size + j ∧ i * ti.size + j < st * ti.size + n * ti.size) := by
                        rintro ⟨a1, a2⟩
                        rw [← Nat.add_mul] at a2
                        apply hni
                        refine ⟨?_, ?_⟩
                        · rcases Nat.lt_or_ge i st with h7 | h7
                          · have : (i + 1) * ti.size ≤ st * ti.size := Nat.mul_le_mul_right _ h7
                            rw [Nat.add_mul] at this; omega
                          · exact h7
                        · rcases Nat.lt_or_ge i (st + n) with h7 | h7
                          · exact h7
                          · have : (st + n) * ti.size ≤ i * ti.size := Nat.mul_le_mul_right _ h7
                            omega
                      have hv' : cells[i * ti.size + j]? = some v := by
                        split at hv
                        · simpa using hv
                        · split at hv
                          · omega
                          · simpa using hv
                      exact f5 i x j y v hx hy hv'
                    split at hx
                    · exact hold hx (by omega)
                    · split at hx
                      · rename_i hi1 hi2
                        rw [List.getElem?_replicate] at hx
                        split at hx
                        · simp at hx; subst hx
                          have hjl := (List.getElem?_eq_some_iff.1 hy).1
                          have hroom := elem_room (s := ti.size) (n := n) (sz := n * ti.size) (Nat.le_refl _) (show i - st < n by omega)
                          have hmul : i * ti.size = st * ti.size + (i - st) * ti.size := by rw [← Nat.add_mul]; congr 1; omega
                          rw [if_neg (by omega), if_pos (by omega)] at hv
                          refine hz.rel (i - st) ti.zero j y v (by rw [List.getElem?_replicate, if_pos (by omega)]) hy ?_
                          rw [← hv, Array.getElem?_toList, zeroCells_eq, e1]
                          congr 1; omega
                        · cases hx
                      · exact hold hx (by omega))
                rw [hbox]
                refine ⟨.value (.tuple #[]), .tuple #[], c', ?_, .inl rfl, .tup (by simp) (fun i x v h => by simp at h), q5, q6⟩
                rw [q1]
                have hnz : ∀ (q : Sem Unit), (match (TypeDesc.slice e), Value.slice (some ⟨kb, st * ti.size, none⟩) n cap with
                    | _, .map none | _, .slice none _ _ | _, .slice _ 0 _ => pure ()
                    | _, .map (some r) => q
                    | .slice elem, .slice (some a) n _ => q
                    | _, _ => stuck "clear: map or slice expected") = q := fun q => by
                  cases n with
                  | zero => exact absurd rfl hn0
                  | succ n => rfl
                cases n with
                | zero => exact absurd rfl hn0
                | succ n => simp [Builtin.clear_, run_underlying hu, run_zeroValue' i1 i2, hst]
              · exact absurd h0 hn0
          · cases h
        · cases h
      · simp only [Option.some.injEq] at h
        subst h
        cases hx with
        | nils => exact .pure hs (v := .tuple #[]) (by simp [Builtin.clear_, run_underlying hu]) (.tup (by simp) (fun i x v h => by simp at h)) rfl
      · cases h
    · cases hn
  · cases h

theorem ok_index (hs : Sim c H) {t : Nat} {x ix : PV} {v vi : Value} (hx : Rel c false x v) (hi : Rel c false ix vi) {r : Res} (h : sIndex P t x ix = some r) :
    OpOk c H (((do pure (Next.value (← Instr.index t v vi))) : Sem Next).run P c.w) r := by
  unfold sIndex at h
  split at h
  · rename_i s k i hu
    split at h
    · rename_i hi0
      split at h
      · rename_i b hb
        simp only [Option.some.injEq] at h
        subst h
        cases hx; cases hi
        exact .pure hs (v := .int .u8 b.toNat) (by simp [Instr.index, asIntOf, run_underlying hu, hi0, hb]) (.int _ _) rfl
      · cases h
    · cases h
  · cases h

theorem ok_convert (hs : Sim c H) {src dst : Nat} {x : PV} {v : Value} (hx : Rel c false x v) {r : Res} (h : sConvert P src dst x = some r) :
    OpOk c H (((do pure (Next.value (← convert src dst v))) : Sem Next).run P c.w) r := by
  unfold sConvert at h
  split at h
  · rename_i k1 k k2 n h1 h2
    simp only [Option.some.injEq] at h
    subst h
    cases hx
    exact .pure hs (v := .int k (k.wrap n)) (by simp [convert, run_underlying h1, run_underlying h2, Conv.intToInt]) (.int _ _) rfl
  · rename_i s h1 h2
    simp only [Option.some.injEq] at h
    subst h
    cases hx
    exact .pure hs (v := .string s) (by simp [convert, run_underlying h1, run_underlying h2]) (.str _) rfl
  · cases h

theorem run_part {t : TypeId} {ti : TI} (ht : tyI P t = some ti) {cells : Array Value} {cs : List PV} (hl : cs.length = cells.size) (hr : ∀ (i : Nat) x v, cs[i]? = some x → cells[i]? = some v → Rel c false x v) {off : Nat} {r : PV}
    (h : loadE ti.agg ti.size (.agg cs) off = some r) : ∃ v, (part t cells off).run P c.w = .ok v c.w ∧ Rel c false r v := by
  obtain ⟨i, d, h1, h2, h3, h4, _⟩ := tyI_inv ht
  unfold loadE at h
  have hcs : (PV.agg cs).cells = cs := rfl
  rw [hcs] at h
  cases hagg : ti.agg with
  | true =>
    simp only [hagg, if_true] at h
    split at h
    · rename_i hle
      simp only [Option.some.injEq] at h
      subst h
      have ha : (isAgg t).run P c.w = .ok true c.w := by rw [run_isAgg' h2, ← h3, hagg]
      refine ⟨.agg (cells.extract off (off + ti.size)), by simp [part, ha, run_sizeOf' h1, ← h4], .agg (by simp; omega) fun j y v hy hv => ?_⟩
      rw [List.getElem?_take] at hy
      split at hy
      · rename_i hj
        rw [List.getElem?_drop] at hy
        have hvl := (Array.getElem?_eq_some_iff.1 hv).1
        simp only [Array.size_extract] at hvl
        rw [Array.getElem?_extract, if_pos (by omega)] at hv
        exact hr (off + j) y v hy hv
      · cases hy
    · cases h
  | false =>
    simp only [hagg, Bool.false_eq_true, if_false] at h
    have hlt := (List.getElem?_eq_some_iff.1 h).1
    have ha : (isAgg t).run P c.w = .ok false c.w := by rw [run_isAgg' h2, ← h3, hagg]
    have hg : cells[off]? = some (cells[off]'(by omega)) := Array.getElem?_eq_getElem (by omega)
    exact ⟨cells[off]'(by omega), by simp [part, ha, hg], hr off r _ h hg⟩

theorem ok_field (hs : Sim c H) {t f : Nat} {x : PV} {v : Value} (hx : Rel c false x v) {r : Res} (h : sField P t x f = some r) :
    OpOk c H (((do pure (Next.value (← Instr.field t v f))) : Sem Next).run P c.w) r := by
  unfold sField at h
  split at h
  · rename_i off ft cs hf
    obtain ⟨fs, fl, h1, h2, h3, h4, h5⟩ := fldI_inv hf
    split at h
    · rename_i ti ht
      cases hl : loadE ti.agg ti.size (.agg cs) off with
      | none => simp [hl] at h
      | some q =>
        simp only [hl, Option.map_some, Option.some.injEq] at h
        subst h
        cases hx with
        | agg hlen hrel =>
          obtain ⟨u, hu, hrel'⟩ := run_part (P := P) ht hlen hrel hl
          subst h4; subst h3
          exact .pure hs (v := u) (by simp [Instr.field, run_underlying h1, h2, asAgg, hu]) hrel' rfl
    · cases h
  · cases h

end
end Pv
set_option linter.unusedSimpArgs false
set_option linter.unusedVariables false
namespace Pv
open Go

theorem eqL_cons {l : LK} {ls : List LK} {xs ys : List PV} {b : Bool} (h : eqL (l :: ls) xs ys = some b) :
    ∃ x xs' y ys' b1 b2, xs = x :: xs' ∧ ys = y :: ys' ∧ eqL [l] [x] [y] = some b1 ∧ eqL ls xs' ys' = some b2 ∧ b = (b1 && b2) := by
  rcases xs with _ | ⟨x, xs⟩
  · cases l <;> simp [eqL] at h
  rcases ys with _ | ⟨y, ys⟩
  · cases l <;> cases x <;> simp [eqL] at h
  refine ⟨x, xs, y, ys, ?_⟩
  cases l with
  | int =>
    cases x <;> try (simp [eqL] at h; done)
    cases y <;> try (simp [eqL] at h; done)
    simp only [eqL] at h
    split at h
    · rename_i hk
      cases h1 : eqL ls xs ys with
      | none => simp [h1] at h
      | some b2 =>
        simp only [h1, Option.map_some, Option.some.injEq] at h
        exact ⟨_, b2, rfl, rfl, by simp [eqL, hk], rfl, h.symm⟩
    · cases h
  | bool =>
    cases x <;> try (simp [eqL] at h; done)
    cases y <;> try (simp [eqL] at h; done)
    simp only [eqL] at h
    cases h1 : eqL ls xs ys with
    | none => simp [h1] at h
    | some b2 =>
      simp only [h1, Option.map_some, Option.some.injEq] at h
      exact ⟨_, b2, rfl, rfl, by simp [eqL], rfl, h.symm⟩
  | str =>
    cases x <;> try (simp [eqL] at h; done)
    cases y <;> try (simp [eqL] at h; done)
    simp only [eqL] at h
    cases h1 : eqL ls xs ys with
    | none => simp [h1] at h
    | some b2 =>
      simp only [h1, Option.map_some, Option.some.injEq] at h
      exact ⟨_, b2, rfl, rfl, by simp [eqL], rfl, h.symm⟩

theorem eqL_cons_mk {l : LK} {ls : List LK} {x y : PV} {xs ys : List PV} {b1 b2 : Bool} (h1 : eqL [l] [x] [y] = some b1) (h2 : eqL ls xs ys = some b2) : eqL (l :: ls) (x :: xs) (y :: ys) = some (b1 && b2) := by
  cases l with
  | int =>
    cases x <;> try (simp [eqL] at h1; done)
    cases y <;> try (simp [eqL] at h1; done)
    simp only [eqL] at h1 ⊢
    split at h1
    · rename_i hk
      simp only [eqL, Option.map_some, Bool.and_true, Option.some.injEq] at h1
      simp [hk, h2, h1]
    · cases h1
  | bool =>
    cases x <;> try (simp [eqL] at h1; done)
    cases y <;> try (simp [eqL] at h1; done)
    simp only [eqL] at h1 ⊢
    simp only [Option.map_some, Bool.and_true, Option.some.injEq] at h1
    simp [h2, h1]
  | str =>
    cases x <;> try (simp [eqL] at h1; done)
    cases y <;> try (simp [eqL] at h1; done)
    simp only [eqL] at h1 ⊢
    simp only [Option.map_some, Bool.and_true, Option.some.injEq] at h1
    simp [h2, h1]

theorem eqL_nil {xs ys : List PV} {b : Bool} (h : eqL [] xs ys = some b) : xs = [] ∧ ys = [] ∧ b = true := by
  rcases xs with _ | ⟨x, xs⟩
  · rcases ys with _ | ⟨y, ys⟩
    · simp only [eqL, Option.some.injEq] at h; exact ⟨rfl, rfl, h.symm⟩
    · simp [eqL] at h
  · simp [eqL] at h

theorem eqL_length : ∀ {ls : List LK} {xs ys : List PV} {b : Bool}, eqL ls xs ys = some b → xs.length = ls.length ∧ ys.length = ls.length
  | [], xs, ys, b, h => by obtain ⟨rfl, rfl, _⟩ := eqL_nil h; exact ⟨rfl, rfl⟩
  | l :: ls, xs, ys, b, h => by
    obtain ⟨x, xs', y, ys', b1, b2, rfl, rfl, _, h2, _⟩ := eqL_cons h
    have := eqL_length h2
    simp [this]

theorem eqL_append : ∀ {l1 l2 : List LK} {xs ys : List PV} {b : Bool}, eqL (l1 ++ l2) xs ys = some b →
    ∃ b1 b2, eqL l1 (xs.take l1.length) (ys.take l1.length) = some b1 ∧ eqL l2 (xs.drop l1.length) (ys.drop l1.length) = some b2 ∧ b = (b1 && b2)
  | [], l2, xs, ys, b, h => ⟨true, b, by simp [eqL], by simpa using h, by simp⟩
  | l :: l1, l2, xs, ys, b, h => by
    rw [List.cons_append] at h
    obtain ⟨x, xs', y, ys', b1, b2, rfl, rfl, h1, h2, rfl⟩ := eqL_cons h
    obtain ⟨b3, b4, g1, g2, rfl⟩ := eqL_append h2
    exact ⟨b1 && b3, b4, eqL_cons_mk h1 g1, g2, by rw [Bool.and_assoc]⟩

section
variable {P : Program} {c : Cx}

structure EqRun (P : Program) (c : Cx) (n : Nat) (t : TypeId) (ls : List LK) : Prop where
  agg : ∀ d, P.underlying t = some d → isAggD d = true → ∀ (xs ys : Array Value) (pxs pys : List PV) (b : Bool), pxs.length = xs.size → pys.length = ys.size →
    (∀ (i : Nat) p v, pxs[i]? = some p → xs[i]? = some v → Rel c false p v) → (∀ (i : Nat) p v, pys[i]? = some p → ys[i]? = some v → Rel c false p v) →
    eqL ls pxs pys = some b → (Op.equalIn n t (.agg xs) (.agg ys)).run P c.w = .ok b c.w
  one : ∀ d, P.underlying t = some d → isAggD d = false → ls.length = 1 ∧ ∀ (x y : Value) (px py : PV) (b : Bool), Rel c false px x → Rel c false py y → eqL ls [px] [py] = some b → (Op.equalIn n t x y).run P c.w = .ok b c.w

theorem EqRun.part {n : Nat} {t : TypeId} {ls : List LK} (h : EqRun P c n t ls) {inf : TypeInfo} (hi : P.info? t = some inf) {d : TypeDesc} (hu : P.underlying t = some d) (hsz : inf.size = ls.length)
    {xs ys : Array Value} {pxs pys : List PV} (hlx : pxs.length = xs.size) (hly : pys.length = ys.size) (hrx : ∀ (i : Nat) p v, pxs[i]? = some p → xs[i]? = some v → Rel c false p v)
    (hry : ∀ (i : Nat) p v, pys[i]? = some p → ys[i]? = some v → Rel c false p v) {off : Nat} {b : Bool} (he : eqL ls ((pxs.drop off).take ls.length) ((pys.drop off).take ls.length) = some b) :
    ∃ a a', (part t xs off).run P c.w = .ok a c.w ∧ (Go.part t ys off).run P c.w = .ok a' c.w ∧ (Op.equalIn n t a a').run P c.w = .ok b c.w := by
  obtain ⟨l1, l2⟩ := eqL_length he
  simp only [List.length_take, List.length_drop] at l1 l2
  have hpart : ∀ (zs : Array Value) (pzs : List PV), pzs.length = zs.size → (∀ (i : Nat) p v, pzs[i]? = some p → zs[i]? = some v → Rel c false p v) → off + ls.length ≤ zs.size →
      ((pzs.drop off).take ls.length).length = (zs.extract off (off + ls.length)).size ∧ ∀ (i : Nat) p v, ((pzs.drop off).take ls.length)[i]? = some p → (zs.extract off (off + ls.length))[i]? = some v → Rel c false p v := by
    intro zs pzs hl hr hle
    refine ⟨by simp; omega, fun i p v hp hv => ?_⟩
    rw [List.getElem?_take] at hp
    split at hp
    · rw [List.getElem?_drop] at hp
      have hvl := (Array.getElem?_eq_some_iff.1 hv).1
      simp only [Array.size_extract] at hvl
      rw [Array.getElem?_extract, if_pos (by omega)] at hv
      exact hr (off + i) p v hp hv
    · cases hp
  cases hd : isAggD d with
  | true =>
    have ha : (isAgg t).run P c.w = .ok true c.w := by rw [run_isAgg' hu, hd]
    by_cases h0 : ls.length = 0
    · have hls : ls = [] := List.eq_nil_of_length_eq_zero h0
      subst hls
      have hb : b = true := by simpa [eqL] using he.symm
      subst hb
      have hsz0 : inf.size = 0 := by simpa using hsz
      refine ⟨.agg #[], .agg #[], by simp [Go.part, ha, run_sizeOf' hi, hsz0]; omega, by simp [Go.part, ha, run_sizeOf' hi, hsz0]; omega, ?_⟩
      exact h.agg d hu hd #[] #[] [] [] true rfl rfl (fun i p v h => by simp at h) (fun i p v h => by simp at h) (by simp [eqL])
    · refine ⟨.agg (xs.extract off (off + ls.length)), .agg (ys.extract off (off + ls.length)), by simp [Go.part, ha, run_sizeOf' hi, hsz], by simp [Go.part, ha, run_sizeOf' hi, hsz], ?_⟩
      obtain ⟨p1, p2⟩ := hpart xs pxs hlx hrx (by omega)
      obtain ⟨p3, p4⟩ := hpart ys pys hly hry (by omega)
      exact h.agg d hu hd _ _ _ _ b p1 p3 p2 p4 he
  | false =>
    have ha : (isAgg t).run P c.w = .ok false c.w := by rw [run_isAgg' hu, hd]
    obtain ⟨hl, hrun⟩ := h.one d hu hd
    have hox : off < xs.size := by omega
    have hoy : off < ys.size := by omega
    have hgx : xs[off]? = some xs[off] := Array.getElem?_eq_getElem hox
    have hgy : ys[off]? = some ys[off] := Array.getElem?_eq_getElem hoy
    have hpx : pxs[off]? = some (pxs[off]'(by omega)) := List.getElem?_eq_getElem (by omega)
    have hpy : pys[off]? = some (pys[off]'(by omega)) := List.getElem?_eq_getElem (by omega)
    refine ⟨xs[off], ys[off], by simp [Go.part, ha, hgx], by simp [Go.part, ha, hgy], hrun _ _ (pxs[off]'(by omega)) (pys[off]'(by omega)) b (hrx off _ _ hpx hgx) (hry off _ _ hpy hgy) ?_⟩
    rw [hl] at he
    rw [← he]
    have hd1 : ∀ (l : List PV) (h : off < l.length), (l.drop off).take 1 = [l[off]] := fun l h => by
      rw [List.drop_eq_getElem_cons h]; rfl
    rw [hd1 pxs (by omega), hd1 pys (by omega)]

theorem info_of_under {t : TypeId} {d : TypeDesc} (h : P.underlying t = some d) : ∃ i, P.info? t = some i := by
  unfold Program.underlying at h
  cases hi : P.info? t with
  | none => simp [hi] at h
  | some i => exact ⟨i, rfl⟩

theorem run_eqFields {f : TypeId → Option (List LK)} {n : Nat} (hf : ∀ t ls, f t = some ls → EqRun P c n t ls ∧ ∃ d, P.underlying t = some d) {xs ys : Array Value} {pxs pys : List PV} (hlx : pxs.length = xs.size) (hly : pys.length = ys.size)
    (hrx : ∀ (i : Nat) p v, pxs[i]? = some p → xs[i]? = some v → Rel c false p v) (hry : ∀ (i : Nat) p v, pys[i]? = some p → ys[i]? = some v → Rel c false p v) :
    ∀ (fs : List Field) (off : Nat) (ls : List LK) (b : Bool), plainFs f P fs off = some ls → eqL ls (pxs.drop off) (pys.drop off) = some b → (Op.eqFields n xs ys fs).run P c.w = .ok b c.w
  | [], off, ls, b, h, he => by
    simp only [plainFs, Option.some.injEq] at h
    subst h
    obtain ⟨_, _, rfl⟩ := eqL_nil he
    simp [Op.eqFields]
  | x :: fs, off, ls, b, h, he => by
    simp only [plainFs] at h
    split at h
    · rename_i l1 h1
      split at h
      · rename_i hc
        obtain ⟨hname, hoff, hcell⟩ := hc
        cases h2 : plainFs f P fs (off + l1.length) with
        | none => simp [h2] at h
        | some l2 =>
          simp only [h2, Option.map_some, Option.some.injEq] at h
          subst h
          obtain ⟨b1, b2, e1, e2, e3⟩ := eqL_append he
          obtain ⟨hrun, d, hu⟩ := hf _ _ h1
          obtain ⟨inf, hi⟩ := info_of_under hu
          obtain ⟨a, a', r1, r2, r3⟩ := hrun.part hi hu (by rw [← hcell, cellsOf_info hi]) hlx hly hrx hry e1
          rw [List.drop_drop, List.drop_drop] at e2
          have ih := run_eqFields hf hlx hly hrx hry fs (off + l1.length) l2 b2 h2 e2
          subst hoff
          subst e3
          cases b1 with
          | false => simp [Op.eqFields, hname, r1, r2, r3]
          | true => simp [Op.eqFields, hname, r1, r2, r3, ih]
      · cases h
    · cases h

theorem run_eqArr {n : Nat} {e : TypeId} {ls : List LK} (hrun : EqRun P c n e ls) {inf : TypeInfo} (hi : P.info? e = some inf) {d : TypeDesc} (hu : P.underlying e = some d) (hsz : inf.size = ls.length)
    {xs ys : Array Value} {pxs pys : List PV} (hlx : pxs.length = xs.size) (hly : pys.length = ys.size)
    (hrx : ∀ (i : Nat) p v, pxs[i]? = some p → xs[i]? = some v → Rel c false p v) (hry : ∀ (i : Nat) p v, pys[i]? = some p → ys[i]? = some v → Rel c false p v) :
    ∀ (k i : Nat) (b : Bool), eqL (List.replicate k ls).flatten (pxs.drop (i * ls.length)) (pys.drop (i * ls.length)) = some b →
      (do
        let r ← forIn (List.range' i k) (none, ()) fun i (r : Option Bool × Unit) => do
          let a ← part e xs (i * ls.length)
          let a' ← part e ys (i * ls.length)
          let q ← Op.equalIn n e a a'
          if (!q) = true then pure (ForInStep.done (some false, ())) else pure (ForInStep.yield (none, ()))
        match r.1 with
        | none => pure true
        | some a => pure a : Sem Bool).run P c.w = .ok b c.w
  | 0, i, b, he => by
    simp only [List.replicate_zero, List.flatten_nil] at he
    obtain ⟨_, _, rfl⟩ := eqL_nil he
    simp
  | k + 1, i, b, he => by
    rw [List.replicate_succ, List.flatten_cons] at he
    obtain ⟨b1, b2, e1, e2, e3⟩ := eqL_append he
    obtain ⟨a, a', r1, r2, r3⟩ := hrun.part hi hu hsz hlx hly hrx hry e1
    rw [List.drop_drop, List.drop_drop] at e2
    have hii : i * ls.length + ls.length = (i + 1) * ls.length := by rw [Nat.add_mul]; omega
    rw [hii] at e2
    have ih := run_eqArr hrun hi hu hsz hlx hly hrx hry k (i + 1) b2 e2
    subst e3
    rw [List.range'_succ]
    cases b1 with
    | false => simp [r1, r2, r3]
    | true =>
      simp only [List.forIn_cons, Sem.run_bind, r1, r2, r3, Result.andThen_ok, Bool.not_true, Bool.false_eq_true, if_false, Sem.run_pure, Bool.true_and]
      simpa using ih

theorem eq_run : ∀ (d : Nat) (t : TypeId) (ls : List LK), plainT P d t = some ls → ∀ m, EqRun P c (d + m) t ls ∧ ∃ u, P.underlying t = some u
  | 0, t, ls, h, m => by simp [plainT] at h
  | d + 1, t, ls, h, m => by
    have ih := eq_run d
    have hdm : d + 1 + m = (d + m) + 1 := by omega
    rw [hdm]
    unfold plainT at h
    split at h
    · rename_i hu
      simp only [Option.some.injEq] at h
      subst h
      refine ⟨⟨fun d' hd ha => ?_, fun d' hd ha => ⟨rfl, fun x y px py b hx hy he => ?_⟩⟩, _, hu⟩
      · rw [hu] at hd; cases hd; cases ha
      · cases hx with
        | bool s1 =>
          cases hy with
          | bool s2 =>
            simp [eqL] at he
            subst he
            simp [Op.equalIn, run_underlying hu]
          | _ => simp [eqL] at he
        | _ => simp [eqL] at he
    · rename_i k hu
      simp only [Option.some.injEq] at h
      subst h
      refine ⟨⟨fun d' hd ha => ?_, fun d' hd ha => ⟨rfl, fun x y px py b hx hy he => ?_⟩⟩, _, hu⟩
      · rw [hu] at hd; cases hd; cases ha
      · cases hx with
        | int k1 n1 =>
          cases hy with
          | int k2 n2 =>
            by_cases hk : k1 = k2
            · subst hk
              simp [eqL] at he
              subst he
              simp [Op.equalIn, run_underlying hu]
            · simp [eqL, hk] at he
          | _ => simp [eqL] at he
        | _ => simp [eqL] at he
    · rename_i hu
      simp only [Option.some.injEq] at h
      subst h
      refine ⟨⟨fun d' hd ha => ?_, fun d' hd ha => ⟨rfl, fun x y px py b hx hy he => ?_⟩⟩, _, hu⟩
      · rw [hu] at hd; cases hd; cases ha
      · cases hx with
        | str s1 =>
          cases hy with
          | str s2 =>
            simp [eqL] at he
            subst he
            simp [Op.equalIn, run_underlying hu, beq_toListBytes]
          | _ => simp [eqL] at he
        | _ => simp [eqL] at he
    · rename_i fs hu
      split at h
      · cases h
      · rename_i hno
        refine ⟨⟨fun d' hd ha xs ys pxs pys b hlx hly hrx hry he => ?_, fun d' hd ha => ?_⟩, _, hu⟩
        · have hst : P.stoodInHeld t = false := by
            cases hq : P.stoodInHeld t with
            | false => rfl
            | true => exact absurd (.inl hq) hno
          have hfo : P.fieldsOf t = fs := by simp [Program.fieldsOf, hu]
          rw [run_equalIn_struct c.w (d + m) t xs ys (by rw [hfo]; exact hu) hst, hfo]
          exact run_eqFields (f := plainT P d) (fun t ls h => ih t ls h m) hlx hly hrx hry fs.toList 0 ls b h (by simpa using he)
        · rw [hu] at hd; cases hd; cases ha
    · rename_i k e hu
      split at h
      · cases h
      · split at h
        · rename_i l1 h1
          split at h
          · rename_i hcell
            simp only [Option.some.injEq] at h
            subst h
            obtain ⟨hrun, u, hue⟩ := ih e l1 h1 m
            obtain ⟨inf, hi⟩ := info_of_under hue
            have hsz : inf.size = l1.length := by rw [← hcell, cellsOf_info hi]
            refine ⟨⟨fun d' hd ha xs ys pxs pys b hlx hly hrx hry he => ?_, fun d' hd ha => ?_⟩, _, hu⟩
            · have h9 := run_eqArr hrun hi hue hsz hlx hly hrx hry k 0 b (by simpa using he)
              simp only [Op.equalIn, Sem.run_bind, run_underlying hu, Result.andThen_ok, run_sizeOf' hi, hsz]
              have hrange : Std.Legacy.Range.size [:k] = k := by simp [Std.Legacy.Range.size]
              rw [Std.Legacy.Range.forIn_eq_forIn_range', hrange]
              simp only [Sem.run_bind] at h9
              generalize (forIn (List.range' 0 k) (none, ()) fun i (r : Option Bool × Unit) => (do
                let a ← part e xs (i * l1.length)
                let a' ← part e ys (i * l1.length)
                let q ← Op.equalIn (d + m) e a a'
                if (!q) = true then pure (ForInStep.done (some false, ())) else pure (ForInStep.yield (none, ())) : Sem (ForInStep (Option Bool × Unit)))) = loop at h9
              refine Eq.trans ?_ h9
              congr 1
              funext a w'
              cases a.1 <;> rfl
            · rw [hu] at hd; cases hd; cases ha
          · cases h
        · cases h
    · cases h


theorem eqGuard_none {op : BinOp} {t : TypeId} {d : Nat} {ls : List LK} (h : plainT P (d + 1) t = some ls) {ox oy : Operand} {xs ys : Array Value} (w : World) :
    P.underlying t = P.underlying t → (∃ u, P.underlying t = some u ∧ isAggD u = true) → (eqGuard op t ox oy (.agg xs) (.agg ys)).run P w = .ok () w := by
  rintro - ⟨u, hu, ha⟩
  refine run_eqGuard_agg w op t ox oy xs ys ?_
  unfold plainT at h
  rw [hu] at h
  cases u <;> simp_all [isAggD]

theorem eqL_bool {t : TypeId} {xs ys : Array Value} {pxs pys : List PV} {ls : List LK} {b : Bool} (h : plainT P 100 t = some ls) (hlx : pxs.length = xs.size) (hly : pys.length = ys.size)
    (hrx : ∀ (i : Nat) p v, pxs[i]? = some p → xs[i]? = some v → Rel c false p v) (hry : ∀ (i : Nat) p v, pys[i]? = some p → ys[i]? = some v → Rel c false p v) (ha : ∃ u, P.underlying t = some u ∧ isAggD u = true)
    (he : eqL ls pxs pys = some b) : (Op.equalIn 10000 t (.agg xs) (.agg ys)).run P c.w = .ok b c.w := by
  obtain ⟨u, hu, ha⟩ := ha
  exact (eq_run 100 t ls h 9900).1.agg u hu ha xs ys pxs pys b hlx hly hrx hry he

end
end Pv
set_option linter.unusedSimpArgs false
set_option linter.unusedVariables false
namespace Pv
open Go

section
variable {P : Program} {c : Cx} {H : FH}

theorem ok_bin (hs : Sim c H) {op : BinOp} {t : Nat} {ox oy : Operand} {x y : PV} {vx vy : Value} (hx : Rel c false x vx) (hy : Rel c false y vy) {p : PV} (h : sBin P op t x y = some p) :
    OpOk c H (((do pure (Next.value (← (do eqGuard op t ox oy vx vy; Go.binOp op t vx vy)))) : Sem Next).run P c.w) { v := p } := by
  have hgb : ∀ (op : BinOp) (a b : Bool), (eqGuard op t ox oy (.bool a) (.bool b)).run P c.w = .ok () c.w := fun op a b => by cases op <;> simp [eqGuard]
  have hagg : ∀ (xs ys : List PV) (b : Bool) (us vs : Array Value), sEq P t (.agg xs) (.agg ys) = some b → Rel c false (.agg xs) (.agg us) → Rel c false (.agg ys) (.agg vs) →
      (Op.equalIn 10000 t (.agg us) (.agg vs)).run P c.w = .ok b c.w ∧ ∀ op, (eqGuard op t ox oy (.agg us) (.agg vs)).run P c.w = .ok () c.w := by
    intro xs ys b us vs he hxr hyr
    simp only [sEq] at he
    split at he
    · rename_i ti ls ht hp
      split at he
      · rename_i hti
        obtain ⟨i, d, h1, h2, h3, _⟩ := tyI_inv ht
        have ha : ∃ u, P.underlying t = some u ∧ isAggD u = true := ⟨d, h2, by rw [← h3]; exact hti⟩
        cases hxr with
        | agg l1 r1 =>
          cases hyr with
          | agg l2 r2 => exact ⟨eqL_bool hp l1 l2 r1 r2 ha he, fun op => eqGuard_none hp c.w rfl ha⟩
      · cases he
    · cases he
  unfold sBin at h
  split at h
  · rename_i a b
    cases hb : sEq P t (.bool a) (.bool b) with
    | none => simp [hb] at h
    | some q =>
      simp only [hb, Option.map_some, Option.some.injEq] at h
      subst h
      simp only [sEq] at hb
      split at hb
      · rename_i hu
        simp only [Option.some.injEq] at hb
        subst hb
        cases hx; cases hy
        exact .pure hs (v := .bool (a == b)) (by simp only [Sem.run_bind, hgb, Result.andThen_ok]; simp [Go.binOp, Op.equal, Op.maxDepth, run_equalIn_bool' c.w 9999 t a b hu]) (.bool _) rfl
      · cases hb
  · rename_i xs ys
    cases hb : sEq P t (.agg xs) (.agg ys) with
    | none => simp [hb] at h
    | some q =>
      simp only [hb, Option.map_some, Option.some.injEq] at h
      subst h
      have hxa : ∃ us, vx = .agg us := by cases hx; exact ⟨_, rfl⟩
      have hya : ∃ us, vy = .agg us := by cases hy; exact ⟨_, rfl⟩
      obtain ⟨us, rfl⟩ := hxa
      obtain ⟨vs, rfl⟩ := hya
      obtain ⟨e1, e2⟩ := hagg xs ys q us vs hb hx hy
      exact .pure hs (v := .bool q) (by simp only [Sem.run_bind, e2, Result.andThen_ok, run_eql_struct, e1, Sem.run_pure]) (.bool _) rfl
  · rename_i a b
    cases hb : sEq P t (.bool a) (.bool b) with
    | none => simp [hb] at h
    | some q =>
      simp only [hb, Option.map_some, Option.some.injEq] at h
      subst h
      simp only [sEq] at hb
      split at hb
      · rename_i hu
        simp only [Option.some.injEq] at hb
        subst hb
        cases hx; cases hy
        exact .pure hs (v := .bool (!(a == b))) (by simp only [Sem.run_bind, hgb, Result.andThen_ok]; simp [Go.binOp, Op.equal, Op.maxDepth, run_equalIn_bool' c.w 9999 t a b hu]) (.bool _) rfl
      · cases hb
  · rename_i xs ys
    cases hb : sEq P t (.agg xs) (.agg ys) with
    | none => simp [hb] at h
    | some q =>
      simp only [hb, Option.map_some, Option.some.injEq] at h
      subst h
      have hxa : ∃ us, vx = .agg us := by cases hx; exact ⟨_, rfl⟩
      have hya : ∃ us, vy = .agg us := by cases hy; exact ⟨_, rfl⟩
      obtain ⟨us, rfl⟩ := hxa
      obtain ⟨vs, rfl⟩ := hya
      obtain ⟨e1, e2⟩ := hagg xs ys q us vs hb hx hy
      exact .pure hs (v := .bool (!q)) (by simp only [Sem.run_bind, e2, Result.andThen_ok, run_neq_struct, e1, Sem.run_pure]) (.bool _) rfl
  · exact ok_binop hs hx hy h

theorem run_equalIn_nil (w : World) (d : Nat) (t e : TypeId) (a : Option Addr) (n m : Nat) (h : P.underlying t = some (.slice e)) :
    (Op.equalIn (d + 1) t (.slice a n m) (.slice none 0 0)).run P w = .ok a.isNone w := by
  unfold Op.equalIn
  cases a <;> simp [run_underlying h, go_sem]

theorem ok_nil (hs : Sim c H) {op : BinOp} {t : Nat} {ox oy : Operand} {x y : PV} {vx vy : Value} {neg : Bool} (hop : op = if neg = true then .neq else .eql) (hx : Rel c false x vx) (hy : Rel c false y vy) {r : Res} (h : sNil H P t x y neg = some r) :
    OpOk c H (((do pure (Next.value (← (do eqGuard op t ox oy vx vy; Go.binOp op t vx vy)))) : Sem Next).run P c.w) r := by
  have key : ∀ (a : Option Addr) (n m : Nat) (e : TypeId), P.underlying t = some (.slice e) → vy = .slice none 0 0 → vx = .slice a n m → ∀ r : Res, r.wr = [] → Rel c false r.v (.bool (if neg = true then !a.isNone else a.isNone)) →
      OpOk c H (((do pure (Next.value (← (do eqGuard op t ox oy vx vy; Go.binOp op t vx vy)))) : Sem Next).run P c.w) r := by
    intro a n m e he h1 h2 r hr hrel
    subst h1; subst h2
    obtain ⟨rv, rrd, rwr⟩ := r
    simp only at hr hrel
    subst hr
    refine .pure hs ?_ hrel rfl
    have hq := run_equalIn_nil (P := P) c.w 9999 t e a n m he
    subst hop
    cases neg <;> simp [eqGuard, Go.binOp, Op.equal, Op.maxDepth, hq]
  unfold sNil at h
  split at h
  · rename_i e he
    have hvy : vy = .slice none 0 0 := by cases hy; rfl
    split at h
    · simp only [Option.some.injEq] at h
      subst h
      cases hx
      refine key none 0 0 e he hvy rfl _ rfl ?_
      cases neg <;> exact .bool _
    · simp only [Option.some.injEq] at h
      subst h
      cases hx with
      | slnil _ a => exact key a 0 0 e he hvy rfl _ rfl (.ub _)
      | sl => exact key _ _ _ e he hvy rfl _ rfl (.ub _)
    · simp only [Option.some.injEq] at h
      subst h
      cases hx with
      | sl => refine key _ _ _ e he hvy rfl _ rfl ?_; cases neg <;> exact .bool _
    · rename_i b g s i n
      split at h
      · rename_i hc
        simp only [Option.some.injEq] at h
        subst h
        rcases hx.bsl_inv hs hc with ⟨kb, cells, et, fr, cap, hk, hh, rfl, h5, h6⟩ | ⟨rfl, a, rfl⟩
        · refine key _ _ _ e he hvy rfl _ rfl ?_
          simp only
          split
          · cases neg <;> exact .bool _
          · exact .ub _
        · refine key _ _ _ e he hvy rfl _ rfl ?_
          simp only [Nat.lt_irrefl, if_false]
          exact .ub _
      · cases h
    · cases h
  · cases h

theorem ok_binH (hs : Sim c H) {op : BinOp} {t : Nat} {ox oy : Operand} {x y : PV} {vx vy : Value} (hx : Rel c false x vx) (hy : Rel c false y vy) {r : Res} (h : sBinH P H op t x y = some r) :
    OpOk c H (((do pure (Next.value (← (do eqGuard op t ox oy vx vy; Go.binOp op t vx vy)))) : Sem Next).run P c.w) r := by
  unfold sBinH at h
  split at h
  · exact ok_nil hs (neg := false) (by simp) hx hy h
  · exact ok_nil hs (neg := true) (by simp) hx hy h
  · cases hb : sBin P op t x y with
    | none => simp [hb] at h
    | some q =>
      simp only [hb, Option.map_some, Option.some.injEq] at h
      subst h
      exact ok_bin hs hx hy hb

theorem opt_rel {T : List PV} {a : Act} (hT : RelL c T a.tmps.toList) (o : Option Operand) : (∀ p, o.map (ev T) = some p → ∃ v, o.map a.eval = some v ∧ Rel c false p v) ∧ (o.map (ev T) = none → o.map a.eval = none) := by
  cases o with
  | none => exact ⟨fun p h => by simp at h, fun _ => rfl⟩
  | some x => exact ⟨fun p h => ⟨_, rfl, by simp at h; subst h; exact ev_rel hT x⟩, fun h => by simp at h⟩

theorem rels_map {T : List PV} {a : Act} (hT : RelL c T a.tmps.toList) (xs : Array Operand) : (xs.toList.map (ev T)).length = (xs.map a.eval).size ∧
    ∀ (i : Nat) p v, (xs.toList.map (ev T))[i]? = some p → (xs.map a.eval)[i]? = some v → Rel c false p v := by
  refine ⟨by simp, fun i p v hp hv => ?_⟩
  simp only [List.getElem?_map, Array.getElem?_toList, Option.map_eq_some_iff] at hp
  simp only [Array.getElem?_map, Option.map_eq_some_iff] at hv
  obtain ⟨x, h1, rfl⟩ := hp
  obtain ⟨y, h2, rfl⟩ := hv
  rw [h1] at h2; cases h2
  exact ev_rel hT x

theorem ok_step (hs : Sim c H) {T : List PV} {a : Act} (hT : RelL c T a.tmps.toList) {o : Oper} {n0 : Nat} {r : Res} (h : fstep P n0 H T o = some r) : OpOk c H ((execOp a.eval o).run P c.w) r := by
  obtain ⟨dst, op, ty, pos, after, guard⟩ := o
  cases op with
  | move x =>
    simp only [fstep, Option.some.injEq] at h; subst h
    exact .pure hs rfl (ev_rel hT x) rfl
  | assign x =>
    simp only [fstep, Option.some.injEq] at h; subst h
    exact .pure hs rfl (ev_rel hT x) rfl
  | pick x y z =>
    simp only [fstep] at h
    split at h
    · rename_i t ht
      simp only [Option.some.injEq] at h; subst h
      have hc := ev_rel hT x
      rw [ht] at hc
      have hcv := hc.bool_inv
      cases t with
      | true => exact .pure hs (v := a.eval y) (by simp [execOp, hcv, asBool]) (ev_rel hT y) rfl
      | false => exact .pure hs (v := a.eval z) (by simp [execOp, hcv, asBool]) (ev_rel hT z) rfl
    · cases h
  | fieldAddr t x f => exact ok_fieldAddr hs (ev_rel hT x) h
  | field t x f => exact ok_field hs (ev_rel hT x) h
  | load t x => exact ok_load hs (ev_rel hT x) h
  | store t x v => exact ok_store hs (ev_rel hT x) (ev_rel hT v) h
  | box t x =>
    simp only [fstep] at h
    split at h
    · exact ok_box hs (ev_rel hT x) h
    · cases h
  | alloc t =>
    simp only [fstep] at h
    split at h
    · exact ok_alloc hs h
    · cases h
  | indexAddr t x ix => exact ok_indexAddr hs (ev_rel hT x) (ev_rel hT ix) h
  | index t x ix => exact ok_index hs (ev_rel hT x) (ev_rel hT ix) h
  | binOp op t x y ty' =>
    exact ok_binH hs (ev_rel hT x) (ev_rel hT y) h
  | unOp op t x =>
    cases op with
    | not =>
      simp only [fstep] at h
      split at h
      · rename_i b hb
        simp only [Option.some.injEq] at h; subst h
        have hc := ev_rel hT x
        rw [hb] at hc
        exact .pure hs (v := .bool (!b)) (by simp [execOp, hc.bool_inv, Op.unary]) (.bool _) rfl
      · cases h
    | _ => simp [fstep] at h
  | convert src dst' x => exact ok_convert hs (ev_rel hT x) h
  | makeFunc fn first cap =>
    cases fn with
    | func f =>
      simp only [fstep, Option.some.injEq] at h; subst h
      obtain ⟨r1, r2⟩ := rels_map hT first
      obtain ⟨r3, r4⟩ := rels_map hT cap
      exact .pure hs (v := .func (.func f) (first.map a.eval) (cap.map a.eval)) (by simp [execOp, Instr.makeFunc]) (.clo r1 r2 r3 r4) rfl
    | _ => simp [fstep] at h
  | makeInterface t x =>
    simp only [fstep] at h
    split at h
    · rename_i hc
      simp only [Option.some.injEq] at h; subst h
      exact .pure hs (v := .iface t (a.eval x)) (by simp [execOp, run_makeInterface c.w t (a.eval x) hc]) (.ifc (ev_rel hT x)) rfl
    · cases h
  | extract x i =>
    simp only [fstep] at h
    split at h
    · rename_i vs hv
      have hc := ev_rel hT x
      rw [hv] at hc
      generalize hvx : a.eval x = vx at hc
      cases hp : vs[i]? with
      | none => simp [hp] at h
      | some q =>
        simp only [hp, Option.map_some, Option.some.injEq] at h; subst h
        cases hc with
        | tup hl hr =>
          rename_i us
          have hi : i < us.size := by
            have := (List.getElem?_eq_some_iff.1 hp).1; omega
          have hg : us[i]? = some us[i] := Array.getElem?_eq_getElem hi
          exact .pure hs (v := us[i]) (by simp [execOp, hvx, Instr.extract, hg]) (hr i _ _ hp hg) rfl
    · cases h
  | build t parts => exact ok_build hs hT h
  | buildSlice t len parts =>
    simp only [fstep] at h
    split at h
    · exact ok_buildSlice hs hT h
    · cases h
  | slice t x lo hi mx =>
    exact ok_slice hs (ev_rel hT x) (opt_rel hT lo).1 (opt_rel hT lo).2 (opt_rel hT hi).1 (opt_rel hT hi).2 (opt_rel hT mx).2 h
  | call cl =>
    obtain ⟨callee, args, argTypes⟩ := cl
    cases callee with
    | builtin b =>
      cases b with
      | len =>
        simp only [fstep] at h
        split at h
        · rename_i x t h1 h2
          have e1 : args = #[x] := by apply Array.ext'; simpa using h1
          have e2 : argTypes = #[t] := by apply Array.ext'; simpa using h2
          subst e1; subst e2
          have he : (execOp a.eval ⟨dst, .call { callee := .builtin .len, args := #[x], argTypes := #[t] }, ty, pos, after, guard⟩).run P c.w = ((do pure (Next.value (← Builtin.len_ #[t] ty #[a.eval x]))) : Sem Next).run P c.w := by
            simp [execOp, resolve, invoke, Go.builtin]
          rw [he]
          exact ok_len hs (ev_rel hT x) h
        · cases h
      | append =>
        simp only [fstep] at h
        split at h
        · rename_i x y t t' d h1 h2
          have e1 : args = #[x, y] := by apply Array.ext'; simpa using h1
          have e2 : argTypes = #[t, t'] := by apply Array.ext'; simpa using h2
          subst e1; subst e2
          have he : (execOp a.eval ⟨some d, .call { callee := .builtin .append, args := #[x, y], argTypes := #[t, t'] }, ty, pos, after, guard⟩).run P c.w = ((do pure (Next.value (← Builtin.append_ #[t, t'] ty #[a.eval x, a.eval y]))) : Sem Next).run P c.w := by
            simp [execOp, resolve, invoke, Go.builtin]
          rw [he]
          exact ok_append hs (ev_rel hT x) (ev_rel hT y) h
        · cases h
      | clear =>
        simp only [fstep] at h
        split at h
        · rename_i x t h1 h2
          have e1 : args = #[x] := by apply Array.ext'; simpa using h1
          have e2 : argTypes = #[t] := by apply Array.ext'; simpa using h2
          subst e1; subst e2
          have he : (execOp a.eval ⟨dst, .call { callee := .builtin .clear, args := #[x], argTypes := #[t] }, ty, pos, after, guard⟩).run P c.w = ((do pure (Next.value (← Builtin.clear_ #[t] ty #[a.eval x]))) : Sem Next).run P c.w := by
            simp [execOp, resolve, invoke, Go.builtin]
          rw [he]
          exact ok_clear hs (ev_rel hT x) h
        · cases h
      | _ => simp [fstep] at h
    | _ => simp [fstep] at h
  | _ => simp [fstep] at h

end
end Pv
set_option linter.unusedSimpArgs false
set_option linter.unusedVariables false
namespace Pv
open Go

def PInv (P : Program) (f : FuncId) (args : List PV) (H : FH) (R : PV → FH → Prop) : Prop :=
  ∀ (c : Cx) (vs : List Value), Sim c H → RelL c args vs →
    match (callFunc f vs.toArray).run P c.w with
    | .ok (.enter g as) w => w = c.w ∧ Calls P g as w fun e w' => ∃ r v c' H', e = .returned v ∧ c'.w = w' ∧ R r H' ∧ Sim c' H' ∧ Rel c' false r v ∧ Ext c H c' H'
    | .ok (.value v) w => ∃ r c' H', c'.w = w ∧ R r H' ∧ Sim c' H' ∧ Rel c' false r v ∧ Ext c H c' H'
    | _ => False

def Enters (P : Program) (f : FuncId) : Prop := ∀ args w, (callFunc f args).run P w = .ok (.enter f args) w

theorem PInv.of_call {P : Program} {f : FuncId} {args : List PV} {H : FH} {R : PV → FH → Prop} (he : Enters P f) (h : PCall P f args H R) : PInv P f args H R := by
  intro c vs hs ha
  rw [he]
  exact ⟨rfl, h c vs hs ha⟩

theorem PInv.mono {P : Program} {f : FuncId} {args : List PV} {H : FH} {R R' : PV → FH → Prop} (h : PInv P f args H R) (hr : ∀ r H', R r H' → R' r H') : PInv P f args H R' := by
  intro c vs hs ha
  have := h c vs hs ha
  split at this
  · rename_i g as w heq
    exact ⟨this.1, this.2.mono fun _ _ ⟨r, v, c', H', h1, h2, h3, h4⟩ => ⟨r, v, c', H', h1, h2, hr _ _ h3, h4⟩⟩
  · obtain ⟨r, c', H', h2, h3, h4⟩ := this
    exact ⟨r, c', H', h2, hr _ _ h3, h4⟩
  · exact this.elim

def CallSem (P : Program) (f : FuncId) (args : List PV) (H : FH) (ρ : Res) : Prop :=
  ∀ H' : FH, (∀ b ∈ ρ.rd, H' b = H b) → PInv P f args H' fun q H'' => q = ρ.v ∧ H'' = upd H' ρ.wr

def guardDec (all : Array Oper) (T : List PV) (o : Oper) : Option Bool :=
  match o.guard with
  | none => some true
  | some (j, want) => match (all[j]?).bind (·.dst) with
    | none => some false
    | some d => match T[d]? with
      | some (.bool b) => some (b == want)
      | some (.tup _) => some false
      | none => some false
      | _ => none

theorem guard_sound {all : Array Oper} {c : Cx} {T : List PV} {a : Act} (hT : RelL c T a.tmps.toList) {o : Oper} {b : Bool} (h : guardDec all T o = some b) : Region.wanted o (yielded all a.tmps) = b := by
  unfold guardDec at h
  unfold Region.wanted
  split at h
  · rename_i hg
    simp only [Option.some.injEq] at h
    simp [hg, h]
  · rename_i j want hg
    simp only [hg]
    unfold yielded
    have hlen : T.length = a.tmps.size := by simpa using hT.1
    split at h
    · rename_i hd
      simp only [Option.some.injEq] at h
      subst h
      simp [hd]
    · rename_i d hd
      simp only [hd, Option.bind_some]
      split at h
      · rename_i q hq
        simp only [Option.some.injEq] at h
        subst h
        have hlt : d < a.tmps.size := by rw [← hlen]; exact (List.getElem?_eq_some_iff.1 hq).1
        have hg2 : a.tmps[d]? = some a.tmps[d] := Array.getElem?_eq_getElem hlt
        have hr := hT.2 d _ _ hq (by rw [Array.getElem?_toList]; exact hg2)
        rw [hg2, hr.bool_inv]
        cases q <;> cases want <;> rfl
      · rename_i q hq
        simp only [Option.some.injEq] at h
        subst h
        have hlt : d < a.tmps.size := by rw [← hlen]; exact (List.getElem?_eq_some_iff.1 hq).1
        have hg2 : a.tmps[d]? = some a.tmps[d] := Array.getElem?_eq_getElem hlt
        have hr := hT.2 d _ _ hq (by rw [Array.getElem?_toList]; exact hg2)
        rw [hg2]
        generalize a.tmps[d] = v at hr
        cases hr
        rfl
      · rename_i hq
        simp only [Option.some.injEq] at h
        subst h
        have hge : a.tmps[d]? = none := by
          rw [Array.getElem?_eq_none_iff, ← hlen]; exact List.getElem?_eq_none_iff.1 hq
        rw [hge]; rfl
      · cases h

def OpSem (P : Program) (all : Array Oper) (o : Oper) (T : List PV) (H : FH) (ρ : Res) : Prop :=
  ∀ (T' : List PV) (H' : FH), (∀ t ∈ o.looksAt all, T'[t]? = T[t]?) → (∀ b ∈ ρ.rd, H' b = H b) → ∀ (c : Cx) (a : Act), Sim c H' → RelL c T' a.tmps.toList →
    ∀ (K : Act → World → Prop) (Q : Exit → Act → World → Prop), (∀ v c', Rel c' false ρ.v v → Sim c' (upd H' ρ.wr) → Ext c H' c' (upd H' ρ.wr) → K (a.put o.dst v) c'.w) →
    if Region.wanted o (yielded all a.tmps) then o.wp P a c.w K Q ∨ (o.asks P a c.w ∧ LetsOut Q) else K (a.put o.dst undef) c.w

theorem ev_congr {all : Array Oper} {o : Oper} {T T' : List PV} (h : ∀ t ∈ o.looksAt all, T'[t]? = T[t]?) : ∀ x ∈ o.op.operands, ev T' x = ev T x := by
  intro x hx
  cases x with
  | tmp t =>
    have : t ∈ o.looksAt all := List.mem_append_left _ (List.mem_filterMap.2 ⟨.tmp t, by simpa using hx, rfl⟩)
    simp only [ev, List.getD_eq_getElem?_getD, h t this]
  | _ => rfl

theorem guardDec_congr {all : Array Oper} {o : Oper} {T T' : List PV} (h : ∀ t ∈ o.looksAt all, T'[t]? = T[t]?) : guardDec all T' o = guardDec all T o := by
  unfold guardDec
  cases hg : o.guard with
  | none => rfl
  | some gw =>
    obtain ⟨j, want⟩ := gw
    simp only
    cases hd : (all[j]?).bind (·.dst) with
    | none => rfl
    | some d =>
      have : d ∈ o.looksAt all := by simp [Oper.looksAt, hg, hd]
      simp only [h d this]

theorem layParts_congr {T T' : List PV} (n : Nat) : ∀ (parts : List (Nat × Operand)) (xs : List PV), (∀ x ∈ parts.map (·.2), ev T' x = ev T x) → layParts T' n parts xs = layParts T n parts xs
  | [], xs, _ => rfl
  | (i, x) :: rest, xs, h => by
    simp only [layParts, h x (by simp)]
    rw [layParts_congr n rest _ fun y hy => h y (by simp at hy ⊢; exact .inr hy)]

theorem layFields_congr {T T' : List PV} (P : Program) (t : TypeId) : ∀ (parts : List (Nat × Operand)) (cs : List PV), (∀ x ∈ parts.map (·.2), ev T' x = ev T x) → layFields T' P t parts cs = layFields T P t parts cs
  | [], cs, _ => rfl
  | (i, x) :: rest, cs, h => by
    simp only [layFields, h x (by simp)]
    split
    · rw [layFields_congr P t rest _ fun y hy => h y (by simp at hy ⊢; exact .inr hy)]
    · rfl

theorem fstep_congrT {P : Program} {n0 : Nat} {H : FH} {T T' : List PV} (o : Oper) (h : ∀ x ∈ o.op.operands, ev T' x = ev T x) : fstep P n0 H T' o = fstep P n0 H T o := by
  obtain ⟨dst, op, ty, pos, after, guard⟩ := o
  cases op <;> simp only [Op.operands] at h <;> simp only [fstep]
  case build t ps => simp only [sBuild, layFields_congr P t ps.toList _ fun x hx => h x (by simpa using hx)]
  case buildSlice t n ps =>
    cases dst with
    | none => rfl
    | some d => simp only [sBuildSlice, fun k xs => layParts_congr k ps.toList xs fun x hx => h x (by simpa using hx)]
  case unOp op t x => cases op <;> simp_all [fstep]
  case slice t x lo hi mx => cases lo <;> cases hi <;> cases mx <;> simp_all
  case makeFunc fn first cap =>
    cases fn with
    | func f =>
      simp only [fstep]
      rw [List.map_congr_left (f := ev T') (g := ev T) (l := first.toList) fun x hx => h x (by simpa using .inl (by simpa using hx)),
        List.map_congr_left (f := ev T') (g := ev T) (l := cap.toList) fun x hx => h x (by simpa using .inr (by simpa using hx))]
    | _ => rfl
  case call c =>
    obtain ⟨callee, args, argTypes⟩ := c
    cases callee with
    | builtin b =>
      have hargs : ∀ x ∈ args.toList, ev T' x = ev T x := fun x hx => h x (by simp [Call.operands]; simpa using hx)
      cases b <;> simp only [fstep]
      all_goals split
      all_goals first | rfl | skip
      all_goals
        have hq := hargs
        simp_all
    | _ => rfl
  all_goals (first | rfl | (simp_all; done) | skip)

theorem callOf_congr {T T' : List PV} (o : Oper) (h : ∀ x ∈ o.op.operands, ev T' x = ev T x) : callOf T' o = callOf T o := by
  obtain ⟨dst, op, ty, pos, after, guard⟩ := o
  cases op <;> simp only [callOf]
  case call c =>
    obtain ⟨callee, args, argTypes⟩ := c
    cases callee with
    | value f =>
      simp only [callOf]
      have hf : ev T' f = ev T f := h f (by simp [Op.operands, Call.operands])
      have hargs : args.toList.map (ev T') = args.toList.map (ev T) := List.map_congr_left fun x hx => h x (by simp [Op.operands, Call.operands]; exact .inr (by simpa using hx))
      rw [hf, hargs]
    | _ => rfl

end Pv
set_option linter.unusedSimpArgs false
set_option linter.unusedVariables false
namespace Pv
open Go

section
variable {P : Program} {n0 : Nat} {H H' : FH} {T : List PV}

theorem cur_congr {b g : Nat} (h : H' b = H b) : cur H' b g = cur H b g := by simp [cur, h]
theorem boxArr_congr {b g s : Nat} (h : H' b = H b) : boxArr H' b g s = boxArr H b g s := by simp [boxArr, h]
theorem genOf_congr {b : Nat} (h : H' b = H b) : genOf H' b = genOf H b := by simp [genOf, h]

theorem srcOf_congr {k : Nat} {y : PV} {ys : List PV} {ids : List Nat} (h : sAppend.srcOf H k y = some (ys, ids)) (hr : ∀ b ∈ ids, H' b = H b) : sAppend.srcOf H' k y = some (ys, ids) := by
  unfold sAppend.srcOf at h ⊢
  split at h
  · exact h
  · exact h
  · rename_i b g s st n
    split at h
    · rename_i z xs hb
      split at h
      · rename_i hc
        simp only [Option.some.injEq, Prod.mk.injEq] at h
        have hbb : H' b = H b := hr b (by rw [← h.2]; simp)
        simp only [boxArr_congr hbb, hb]
        rw [if_pos hc, h.1, h.2]
      · cases h
    · cases h
  · cases h

theorem fstep_congrH {o : Oper} {r : Res} (h : fstep P n0 H T o = some r) : (∀ b ∈ r.wr.map (·.1), b ∈ r.rd) ∧ ((∀ b ∈ r.rd, H' b = H b) → fstep P n0 H' T o = some r) := by
  obtain ⟨dst, op, ty, pos, after, guard⟩ := o
  have triv : r.wr = [] → ∀ b ∈ r.wr.map (·.1), b ∈ r.rd := fun e b hb => by simp [e] at hb
  cases op with
  | move x => simp only [fstep, Option.some.injEq] at h; subst h; exact ⟨by simp, fun _ => rfl⟩
  | assign x => simp only [fstep, Option.some.injEq] at h; subst h; exact ⟨by simp, fun _ => rfl⟩
  | pick x y z =>
    have h' := h
    simp only [fstep] at h
    split at h
    · simp only [Option.some.injEq] at h; subst h; exact ⟨by simp, fun _ => h'⟩
    · cases h
  | fieldAddr t x f =>
    simp only [fstep] at h ⊢
    unfold sFieldAddr at h ⊢
    split at h
    · rename_i off ft b g s i p hf hx
      (try simp only [hf, hx])
      split at h
      · rename_i hc
        simp only [Option.some.injEq] at h; subst h
        exact ⟨by simp, fun hr => by rw [cur_congr (hr b (by simp)), if_pos hc]⟩
      · cases h
    · rename_i hf hx
      (try simp only [hf, hx])
      simp only [Option.some.injEq] at h; subst h; exact ⟨by simp, fun _ => rfl⟩
    · cases h
  | field t x f =>
    have h' := h
    simp only [fstep] at h
    unfold sField at h
    split at h
    · split at h
      · simp only [Option.map_eq_some_iff] at h
        obtain ⟨_, _, rfl⟩ := h
        exact ⟨by simp, fun _ => h'⟩
      · cases h
    · cases h
  | load t x =>
    simp only [fstep] at h ⊢
    unfold sLoad at h ⊢
    split at h
    · rename_i ti b g s i p ht hx
      (try simp only [ht, hx])
      split at h
      · rename_i y xs hb
        split at h
        · rename_i e he
          have h9 := h
          simp only [Option.map_eq_some_iff] at h
          obtain ⟨q, hq, rfl⟩ := h
          exact ⟨by simp, fun hr => by rw [boxArr_congr (hr b (by simp)), hb]; simp only [he]; exact h9⟩
        · cases h
      · cases h
    · rename_i ti s xs i p ht hx
      (try simp only [ht, hx])
      split at h
      · have h9 := h
        simp only [Option.map_eq_some_iff] at h
        obtain ⟨q, hq, rfl⟩ := h
        exact ⟨by simp, fun _ => h9⟩
      · cases h
    · cases h
  | store t x v =>
    simp only [fstep] at h ⊢
    unfold sStore at h ⊢
    split at h
    · rename_i ti b g s i p ht hx
      (try simp only [ht, hx])
      split at h
      · rename_i y xs hb
        split at h
        · rename_i e he
          split at h
          · rename_i hc
            simp only [Option.some.injEq] at h; subst h
            exact ⟨by simp, fun hr => by rw [boxArr_congr (hr b (by simp)), hb]; simp only [he]; rw [if_pos hc]⟩
          · cases h
        · cases h
      · cases h
    · cases h
  | box t x =>
    simp only [fstep] at h ⊢
    split at h
    · rename_i d
      unfold sBox at h ⊢
      split at h
      · split at h
        · rename_i hc
          simp only [Option.some.injEq] at h; subst h
          exact ⟨by simp [newBox], fun hr => by simp only [hc, if_true, newBox, genOf_congr (hr (n0 + d) (by simp))]⟩
        · cases h
      · cases h
    · cases h
  | alloc t =>
    simp only [fstep] at h ⊢
    split at h
    · rename_i d
      unfold sAlloc at h ⊢
      split at h
      · split at h
        · rename_i hc
          simp only [Option.some.injEq] at h; subst h
          exact ⟨by simp [newBox], fun hr => by simp only [hc, if_true, newBox, genOf_congr (hr (n0 + d) (by simp))]⟩
        · cases h
      · cases h
    · cases h
  | indexAddr t x ix =>
    simp only [fstep] at h ⊢
    unfold sIndexAddr at h ⊢
    split at h
    · rename_i he hx hi
      (try simp only [he, hx, hi])
      have h9 := h
      split at h
      · simp only [Option.some.injEq] at h; subst h; exact ⟨by simp, fun _ => h9⟩
      · cases h
    · rename_i e b g s st n k i he hx hi
      (try simp only [he, hx, hi])
      split at h
      · rename_i hc
        simp only [Option.some.injEq] at h; subst h
        exact ⟨by simp, fun hr => by rw [cur_congr (hr b (by simp)), if_pos hc]⟩
      · cases h
    · rename_i m e b g s j p k i he hx hi
      (try simp only [he, hx, hi])
      split at h
      · rename_i hc
        simp only [Option.some.injEq] at h; subst h
        exact ⟨by simp, fun hr => by rw [cur_congr (hr b (by simp)), if_pos hc]⟩
      · cases h
    · cases h
  | index t x ix =>
    have h' := h
    simp only [fstep] at h
    unfold sIndex at h
    split at h
    · split at h
      · split at h
        · simp only [Option.some.injEq] at h; subst h; exact ⟨by simp, fun _ => h'⟩
        · cases h
      · cases h
    · cases h
  | binOp op t x y ty' =>
    have key : ∀ neg r, sNil H P t (ev T x) (ev T y) neg = some r → r.wr = [] ∧ ((∀ b ∈ r.rd, H' b = H b) → sNil H' P t (ev T x) (ev T y) neg = some r) := by
      intro neg r h
      unfold sNil at h ⊢
      split at h
      · rename_i e hu hy
        (try simp only [hu, hy])
        split at h
        · rename_i hx; (try simp only [hx]); simp only [Option.some.injEq] at h; subst h; exact ⟨rfl, fun _ => rfl⟩
        · rename_i hx; (try simp only [hx]); simp only [Option.some.injEq] at h; subst h; exact ⟨rfl, fun _ => rfl⟩
        · rename_i hx; (try simp only [hx]); simp only [Option.some.injEq] at h; subst h; exact ⟨rfl, fun _ => rfl⟩
        · rename_i b g s i n hx
          (try simp only [hx])
          split at h
          · rename_i hc
            simp only [Option.some.injEq] at h; subst h
            refine ⟨rfl, fun hr => ?_⟩
            have hb : H' b = H b := hr b (by simp)
            have hc' : sNil.curB H' b g = true := by simpa [sNil.curB, hb] using hc
            rw [if_pos hc']
          · cases h
        · cases h
      · cases h
    simp only [fstep] at h ⊢
    unfold sBinH at h ⊢
    split at h
    · rename_i hy
      rw [hy] at key h
      simp only [hy]
      exact ⟨by simp [(key _ _ h).1], (key _ _ h).2⟩
    · rename_i hy
      rw [hy] at key h
      simp only [hy]
      exact ⟨by simp [(key _ _ h).1], (key _ _ h).2⟩
    · have h' := h
      simp only [Option.map_eq_some_iff] at h
      obtain ⟨_, _, rfl⟩ := h
      exact ⟨by simp, fun _ => h'⟩
  | unOp op t x =>
    have h' := h
    cases op with
    | not =>
      simp only [fstep] at h
      split at h
      · simp only [Option.some.injEq] at h; subst h; exact ⟨by simp, fun _ => h'⟩
      · cases h
    | _ => simp [fstep] at h
  | convert src dst' x =>
    have h' := h
    simp only [fstep] at h
    unfold sConvert at h
    split at h
    · simp only [Option.some.injEq] at h; subst h; exact ⟨by simp, fun _ => h'⟩
    · simp only [Option.some.injEq] at h; subst h; exact ⟨by simp, fun _ => h'⟩
    · cases h
  | makeFunc fn first cap =>
    have h' := h
    cases fn with
    | func f => simp only [fstep, Option.some.injEq] at h; subst h; exact ⟨by simp, fun _ => h'⟩
    | _ => simp [fstep] at h
  | makeInterface t x =>
    have h' := h
    simp only [fstep] at h
    split at h
    · simp only [Option.some.injEq] at h; subst h; exact ⟨by simp, fun _ => h'⟩
    · cases h
  | extract x i =>
    have h' := h
    simp only [fstep] at h
    split at h
    · simp only [Option.map_eq_some_iff] at h
      obtain ⟨_, _, rfl⟩ := h
      exact ⟨by simp, fun _ => h'⟩
    · cases h
  | build t parts =>
    have h' := h
    simp only [fstep] at h
    unfold sBuild at h
    split at h
    · split at h
      · split at h
        · simp only [Option.map_eq_some_iff] at h
          obtain ⟨_, _, rfl⟩ := h
          exact ⟨by simp, fun _ => h'⟩
        · cases h
      · cases h
    · cases h
  | buildSlice t len parts =>
    simp only [fstep] at h ⊢
    split at h
    · rename_i d
      unfold sBuildSlice at h ⊢
      split at h
      · rename_i e he
        (try simp only [he])
        split at h
        · rename_i ti ht
          (try simp only [ht])
          split at h
          · rename_i hc
            split at h
            · rename_i xs hxs
              simp only [Option.some.injEq] at h; subst h
              exact ⟨by simp [newBox], fun hr => by simp only [hc, and_self, if_true, hxs, newBox, genOf_congr (hr (n0 + d) (by simp))]⟩
            · cases h
          · cases h
        · cases h
      · cases h
    · cases h
  | slice t x lo hi mx =>
    simp only [fstep] at h ⊢
    unfold sSlice at h ⊢
    split at h
    · rename_i e s xs he hx hm
      (try simp only [he, hx, hm])
      split at h
      · have h9 := h
        split at h
        · simp only [Option.some.injEq] at h; subst h; exact ⟨by simp, fun _ => h9⟩
        · cases h
      · cases h
    · rename_i e b g s st n he hx hm
      (try simp only [he, hx, hm])
      split at h
      · rename_i l hh h1 h2
        (try simp only [h1, h2])
        split at h
        · rename_i hc
          simp only [Option.some.injEq] at h; subst h
          exact ⟨by simp, fun hr => by rw [cur_congr (hr b (by simp)), if_pos hc]⟩
        · cases h
      · cases h
    · rename_i m e b g s i p he hx hm
      (try simp only [he, hx, hm])
      split at h
      · rename_i y xs hb
        split at h
        · rename_i x' hx'
          split at h
          · rename_i l hh h1 h2
            split at h
            · rename_i hc
              simp only [Option.some.injEq] at h; subst h
              refine ⟨by simp, fun hr => ?_⟩
              rw [boxArr_congr (hr b (by simp)), hb]
              simp only [hx', h1, h2]
              rw [if_pos hc]
            · cases h
          · cases h
        · cases h
      · cases h
    · cases h
  | call cl =>
    obtain ⟨callee, args, argTypes⟩ := cl
    cases callee with
    | builtin b =>
      cases b with
      | len =>
        simp only [fstep] at h ⊢
        split at h
        · rename_i x t h1 h2
          (try simp only [h1, h2])
          unfold sLen at h ⊢
          split at h
          · rename_i he hx
            (try simp only [he, hx])
            simp only [Option.some.injEq] at h; subst h; exact ⟨by simp, fun _ => rfl⟩
          · rename_i e b g s st n he hx
            (try simp only [he, hx])
            split at h
            · rename_i hc
              simp only [Option.some.injEq] at h; subst h
              exact ⟨by simp, fun hr => by rw [cur_congr (hr b (by simp)), if_pos hc]⟩
            · cases h
          · rename_i he hx
            (try simp only [he, hx])
            simp only [Option.some.injEq] at h; subst h; exact ⟨by simp, fun _ => rfl⟩
          · rename_i he hx
            (try simp only [he, hx])
            have h9 := h
            split at h
            · simp only [Option.some.injEq] at h; subst h; exact ⟨by simp, fun _ => h9⟩
            · cases h
          · cases h
        · cases h
      | append =>
        simp only [fstep] at h ⊢
        split at h
        · rename_i x y t t' d h1 h2
          (try simp only [h1, h2])
          unfold sAppend at h ⊢
          split at h
          · rename_i e e' he he'
            (try simp only [he, he'])
            split at h
            · rename_i ti ys ids ht hsrc
              (try simp only [ht])
              split at hsrc
              · rename_i hee
                simp only [hee, if_true]
                split at h
                · rename_i hok
                  have fin : (∀ b ∈ ids, H' b = H b) → sAppend.srcOf H' (P.cellsOf e) (ev T y) = some (ys, ids) := fun hr => srcOf_congr hsrc hr
                  split at h
                  · rename_i hx
                    split at h
                    · rename_i hb
                      simp only [Option.some.injEq] at h; subst h
                      refine ⟨by simp [newBox], fun hr => ?_⟩
                      rw [fin fun b hb => hr b (by simp [hb])]
                      simp only [hx, hok, and_self, if_true, hb, newBox, genOf_congr (hr (n0 + d) (by simp))]
                    · cases h
                  · rename_i b g s st n hx
                    split at h
                    · rename_i z xs hbx
                      split at h
                      · rename_i hb
                        simp only [Option.some.injEq] at h; subst h
                        refine ⟨by simp, fun hr => ?_⟩
                        rw [fin fun b hb => hr b (by simp [hb])]
                        simp only [hx, hok, and_self, if_true, boxArr_congr (hr b (by simp)), hbx]
                        rw [if_pos hb]
                      · cases h
                    · cases h
                  · cases h
                · cases h
              · cases hsrc
            · cases h
          · cases h
        · cases h
      | clear =>
        simp only [fstep] at h ⊢
        split at h
        · rename_i x t h1 h2
          (try simp only [h1, h2])
          unfold sClear at h ⊢
          split at h
          · rename_i e he
            (try simp only [he])
            split at h
            · rename_i ti b g s st n ht hx
              (try simp only [ht, hx])
              split at h
              · rename_i y xs hb
                split at h
                · rename_i hc
                  simp only [Option.some.injEq] at h; subst h
                  exact ⟨by simp, fun hr => by simp only [boxArr_congr (hr b (by simp)), hb]; rw [if_pos hc]⟩
                · cases h
              · cases h
            · rename_i ht hx
              (try simp only [ht, hx])
              simp only [Option.some.injEq] at h; subst h; exact ⟨by simp, fun _ => rfl⟩
            · cases h
          · cases h
        · cases h
      | _ => simp [fstep] at h
    | _ => simp [fstep] at h
  | _ => simp [fstep] at h

theorem opSem_step {all : Array Oper} {o : Oper} {r : Res} (hg : guardDec all T o = some true) (h : fstep P n0 H T o = some r) : OpSem P all o T H r := by
  intro T' H' hT' hH' c a hs hT K Q hK
  have hg' : guardDec all T' o = some true := (guardDec_congr hT').trans hg
  rw [guard_sound hT hg']
  simp only [if_true]
  left
  have h' : fstep P n0 H' T' o = some r := by
    rw [fstep_congrT o (ev_congr hT')]
    exact (fstep_congrH h).2 hH'
  obtain ⟨nx, v, c', h1, h2, h3, h4, h5⟩ := ok_step hs hT h'
  unfold Oper.wp
  rw [h1]
  rcases h2 with rfl | ⟨rfl, rfl⟩
  · exact hK v c' h3 h4 h5
  · exact hK undef c' h3 h4 h5

theorem opSem_skip {all : Array Oper} {o : Oper} (hg : guardDec all T o = some false) : OpSem P all o T H { v := .tup [] } := by
  intro T' H' hT' hH' c a hs hT K Q hK
  have hg' : guardDec all T' o = some false := (guardDec_congr hT').trans hg
  rw [guard_sound hT hg']
  simp only [Bool.false_eq_true, if_false]
  exact hK undef c (.tup (by simp) fun i x v h => by simp at h) hs (.refl c H')

theorem rell_append {c : Cx} {ps qs : List PV} {us vs : List Value} (h : RelL c ps us) (h' : RelL c qs vs) : RelL c (ps ++ qs) (us ++ vs) := by
  refine ⟨by simp [h.1, h'.1], fun i p v a b => ?_⟩
  rw [List.getElem?_append] at a b
  rw [← h.1] at b
  split at a
  · rename_i hi; rw [if_pos hi] at b; exact h.2 i p v a b
  · rename_i hi; rw [if_neg hi] at b; exact h'.2 _ p v a b

theorem opSem_call {all : Array Oper} {o : Oper} {f : FuncId} {args : List PV} {r : Res} (hg : guardDec all T o = some true) (hc : callOf T o = some (f, args)) (h : CallSem P f args H r) : OpSem P all o T H r := by
  intro T' H' hT' hH' c a hs hT K Q hK
  have hg' : guardDec all T' o = some true := (guardDec_congr hT').trans hg
  rw [guard_sound hT hg']
  simp only [if_true]
  left
  have hc' : callOf T' o = some (f, args) := (callOf_congr o (ev_congr hT')).trans hc
  have hinv := h H' hH'
  obtain ⟨dst, op, ty, pos, after, guard⟩ := o
  unfold callOf at hc'
  split at hc'
  · rename_i fo as ats hop
    simp only at hop
    subst hop
    split at hc'
    · rename_i g first cap hf
      simp only [Option.some.injEq, Prod.mk.injEq] at hc'
      obtain ⟨rfl, rfl⟩ := hc'
      have hfr := ev_rel hT fo
      rw [hf] at hfr
      generalize hfv : a.eval fo = fv at hfr
      cases hfr with
      | clo r1 r2 r3 r4 =>
        rename_i us vs
        have hrel : RelL c (first ++ as.toList.map (ev T') ++ cap) (us.toList ++ (as.map a.eval).toList ++ vs.toList) := by
          refine rell_append (rell_append ⟨by simpa using r1, fun i p v x y => r2 i p v x (by simpa using y)⟩ ?_) ⟨by simpa using r3, fun i p v x y => r4 i p v x (by simpa using y)⟩
          obtain ⟨m1, m2⟩ := rels_map hT as
          exact ⟨by simp, fun i p v x y => m2 i p v x (by rw [← Array.getElem?_toList]; exact y)⟩
        have := hinv c _ hs hrel
        have harr : (us.toList ++ (as.map a.eval).toList ++ vs.toList).toArray = us ++ as.map a.eval ++ vs := by apply Array.ext'; simp
        rw [harr] at this
        have hrun : (execOp a.eval ⟨dst, .call { callee := .value fo, args := as, argTypes := ats }, ty, pos, after, guard⟩).run P c.w = (callFunc g (us ++ as.map a.eval ++ vs)).run P c.w := by
          simp [execOp, resolve, hfv, Deferred.ofValue, invoke]
        unfold Oper.wp
        rw [hrun]
        split at this
        · rename_i g as' w heq
          rw [heq]
          obtain ⟨rfl, hcall⟩ := this
          refine hcall.mono ?_
          rintro e w' ⟨q, v, c', H'', rfl, rfl, ⟨rfl, rfl⟩, s1, s2, s3⟩
          exact hK v c' s2 s1 s3
        · rename_i v w heq
          rw [heq]
          obtain ⟨q, c', H'', rfl, ⟨rfl, rfl⟩, s1, s2, s3⟩ := this
          exact hK v c' s2 s1 s3
        · exact this.elim
    · cases hc'
  · cases hc'

end
end Pv
set_option linter.unusedSimpArgs false
set_option linter.unusedVariables false
namespace Pv
open Go

def pEv0 (P : Program) (all : Array Oper) (n0 : Nat) : List Oper → (PS → Prop) → PS → Prop
  | [], K, st => K st
  | o :: os, K, st => match guardDec all st.T o with
    | some w =>
      (w = true → match fstep P n0 (find st.H) st.T o with
        | some r => pEv0 P all n0 os K ⟨setD st.T o.dst r.v, puts st.H r.wr⟩
        | none => match callOf st.T o with
          | some (f, args) => ∃ r, CallSem P f args (find st.H) r ∧ pEv0 P all n0 os K ⟨setD st.T o.dst r.v, puts st.H r.wr⟩
          | none => False) ∧
      (w = false → pEv0 P all n0 os K ⟨setD st.T o.dst (.tup []), st.H⟩)
    | none => False

def pEv (P : Program) (all : Array Oper) (n0 : Nat) : List Oper → List (List Nat × List Nat) → (List (List Nat × List Nat) → PS → Prop) → PS → Prop
  | [], acc, K, st => K acc.reverse st
  | o :: os, acc, K, st => match guardDec all st.T o with
    | some w =>
      (w = true → match fstep P n0 (find st.H) st.T o with
        | some r => pEv P all n0 os ((r.rd, r.wr.map (·.1)) :: acc) K ⟨setD st.T o.dst r.v, puts st.H r.wr⟩
        | none => match callOf st.T o with
          | some (f, args) => ∃ r, CallSem P f args (find st.H) r ∧ pEv P all n0 os ((r.rd, r.wr.map (·.1)) :: acc) K ⟨setD st.T o.dst r.v, puts st.H r.wr⟩
          | none => False) ∧
      (w = false → pEv P all n0 os (([], []) :: acc) K ⟨setD st.T o.dst (.tup []), st.H⟩)
    | none => False

def pRun (P : Program) (all : Array Oper) : List Oper → List Res → (List Res → PS → Prop) → PS → Prop
  | [], acc, K, st => K acc.reverse st
  | o :: os, acc, K, st => ∃ r, OpSem P all o st.T (find st.H) r ∧ pRun P all os (r :: acc) K ⟨setD st.T o.dst r.v, puts st.H r.wr⟩

section
variable {P : Program} {all : Array Oper} {n0 : Nat}

theorem pEv0_run : ∀ (os : List Oper) (acc : List Res) (K : PS → Prop) (st : PS), pEv0 P all n0 os K st → pRun P all os acc (fun _ => K) st
  | [], acc, K, st, h => h
  | o :: os, acc, K, st, h => by
    simp only [pEv0] at h
    split at h
    · rename_i w hg
      cases w with
      | true =>
        have h := h.1 rfl
        split at h
        · rename_i r hr; exact ⟨r, opSem_step hg hr, pEv0_run os _ K _ h⟩
        · split at h
          · rename_i f args hc
            obtain ⟨r, hr, h⟩ := h
            exact ⟨r, opSem_call hg hc hr, pEv0_run os _ K _ h⟩
          · exact h.elim
      | false =>
        have h := h.2 rfl
        exact ⟨_, opSem_skip hg, pEv0_run os _ K _ h⟩
    · exact h.elim

def foot (r : Res) : List Nat × List Nat := (r.rd, r.wr.map (·.1))

theorem pEv_run : ∀ (os : List Oper) (acc : List Res) (K : List (List Nat × List Nat) → PS → Prop) (st : PS), pEv P all n0 os (acc.map foot) K st → pRun P all os acc (fun l => K (l.map foot)) st
  | [], acc, K, st, h => by simpa [pRun, pEv, List.map_reverse] using h
  | o :: os, acc, K, st, h => by
    simp only [pEv] at h
    split at h
    · rename_i w hg
      cases w with
      | true =>
        have h := h.1 rfl
        split at h
        · rename_i r hr; exact ⟨r, opSem_step hg hr, pEv_run os (r :: acc) K _ h⟩
        · split at h
          · rename_i f args hc
            obtain ⟨r, hr, h⟩ := h
            exact ⟨r, opSem_call hg hc hr, pEv_run os (r :: acc) K _ h⟩
          · exact h.elim
      | false =>
        have h := h.2 rfl
        exact ⟨_, opSem_skip hg, pEv_run os ({ v := .tup [] } :: acc) K _ h⟩
    · exact h.elim

theorem setD_rel {c : Cx} {T : List PV} {a : Act} (hT : RelL c T a.tmps.toList) (d : Option Tmp) {p : PV} {v : Value} (hp : Rel c false p v) : RelL c (setD T d p) (a.put d v).tmps.toList := by
  cases d with
  | none => exact hT
  | some d =>
    simp only [setD, Act.put, Array.toList_setIfInBounds]
    exact hT.set hp d

theorem put_defers (a : Act) (d : Option Tmp) (v : Value) : (a.put d v).defers = a.defers := by cases d <;> rfl

theorem St.step {c0 : Cx} {H0 : FH} {T : List PV} {H : FH} {o : Oper} {r : Res} (h : OpSem P all o T H r) {a : Act} {w : World} (hs : St c0 H0 T H a w) {i : Nat} (hi : all[i]? = some o) {K : Act → World → Prop} {Q : Exit → Act → World → Prop}
    (hK : ∀ a' w', St c0 H0 (setD T o.dst r.v) (upd H r.wr) a' w' → K a' w') : wpOp P all Q i K a w := by
  obtain ⟨c, rfl, h1, h2, h3, h4⟩ := hs
  unfold wpOp
  simp only [hi]
  have h3' : RelL c T a.tmps.toList := h3
  refine h T H (fun _ _ => rfl) (fun _ _ => rfl) c a h1 h3 K Q ?_
  intro v c' g1 g2 g3
  exact hK _ _ ⟨c', rfl, g2, h2.trans g3, setD_rel (h3'.mono g3.le) o.dst g1, by rw [put_defers]; exact h4⟩

theorem pRun_wp {c0 : Cx} {H0 : FH} {Q : Exit → PS → Prop} {K : List Res → PS → Prop} (hq : ∀ l st, K l st → Q .normal st) : ∀ (os : List Oper) (i : Nat) (acc : List Res) (st : PS), all.toList.drop i = os → pRun P all os acc K st →
    ∀ a w, St c0 H0 st.T (find st.H) a w → wpOps P all (fun e a' w' => ∃ st', Q e st' ∧ St c0 H0 st'.T (find st'.H) a' w') (List.range' i os.length) a w
  | [], i, acc, st, hd, h, a, w, hs => ⟨st, hq _ _ h, hs⟩
  | o :: os, i, acc, st, hd, h, a, w, hs => by
    obtain ⟨r, h1, h2⟩ := h
    have hi : all[i]? = some o := by
      have := congrArg (·[0]?) hd
      simpa using this
    have hd' : all.toList.drop (i + 1) = os := by
      have : (all.toList.drop i).drop 1 = os := by rw [hd]; rfl
      rwa [List.drop_drop] at this
    rw [List.length_cons, List.range'_succ, wpOps_cons]
    refine St.step h1 hs hi fun a' w' hs' => ?_
    refine pRun_wp hq os (i + 1) (r :: acc) ⟨setD st.T o.dst r.v, puts st.H r.wr⟩ hd' h2 a' w' ?_
    simp only [find_puts]
    exact hs'

theorem pw_region {c0 : Cx} {H0 : FH} {id : Nat} {Q : Exit → PS → Prop} {st : PS} (n0 : Nat) (h : pEv0 P all n0 all.toList (Q .normal) st) : pw P c0 H0 (.region id all false) Q st := by
  intro a w hs
  refine wp_region ?_
  have := pRun_wp (P := P) (all := all) (Q := Q) (K := fun _ => Q .normal) (fun _ _ h => h) all.toList 0 [] st rfl (pEv0_run _ _ _ _ h) a w hs
  rw [← List.range_eq_range', Array.length_toList] at this
  exact this

end
end Pv
