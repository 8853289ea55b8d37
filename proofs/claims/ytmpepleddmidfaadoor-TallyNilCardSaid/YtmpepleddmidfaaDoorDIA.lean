/-
  The evaluator over data: definitions, how data stand for values, single operations.
-/
import Derived.Calls
import Derived.Below
import Derived.KernelRfl
import Derived.Laws.Cells
import Derived.Laws.Entries
import Derived.ChangeKeysEq
import Derived.Laws.Slices
import Derived.Laws.BytesString
set_option linter.unusedVariables false
/-
  The data-level reading of the loaded code: values as data (slices as lists, structs as lists of cells), local variables in a small store by numbers. Definitions alone.
-/
namespace Go.DI
open Go

inductive Dt where
  | int (k : IntKind) (n : Int)
  | bool (b : Bool)
  | str (s : List UInt8)
  | slc (sz : Nat) (nl : Bool) (es : List Dt)
  | agg (cs : List Dt)
  | tup (cs : List Dt)
  | nilptr
  | niliface
  | nilfunc
  | nilmap
  | func (f : FuncId)
  deriving Inhabited

inductive D where
  | pv (x : Dt)
  | ptr (id off : Nat)
  | cptr (sz : Nat) (es : List Dt) (i off : Nat)
  | own (id sz : Nat) (es : List Dt)
  | exa (sz : Nat) (nl : Bool) (es : List Dt)
  | msl (id off n sz : Nat)
  | agg (cs : List D)
  | tup (vs : List D)
  | func (f : FuncId) (first cap : List D)
  | yield (l : Nat)
  | map (id : Nat)
  | iter (id : Nat)
  | iface (t : TypeId) (v : D)
  | junk
  deriving Inhabited

def omap {α β : Type} (f : α → Option β) : List α → Option (List β)
  | [] => some []
  | a :: l => match f a with
    | none => none
    | some b => match omap f l with
      | none => none
      | some r => some (b :: r)

def Dt.cells : Dt → List Dt
  | .agg cs => cs
  | x => [x]

def Dt.one : Dt → Bool
  | .agg _ | .tup _ => false
  | _ => true

def D.one : D → Bool
  | .pv x => x.one
  | .agg _ | .tup _ | .junk => false
  | _ => true

def D.cells : D → List D
  | .agg cs => cs
  | .pv (.agg cs) => cs.map .pv
  | d => [d]

def D.pv? : D → Option Dt
  | .pv x => some x
  | _ => none

/-- one cell, as pure data -/
def D.cellDt : D → Option Dt
  | .pv x => some x
  | .own _ sz es => some (.slc sz false es)
  | .exa sz nl es => some (.slc sz nl es)
  | .func f [] [] => some (.func f)
  | _ => none

def D.aggDt : D → Option Dt
  | .agg cs => (omap D.cellDt cs).map .agg
  | d => d.cellDt

def D.toDt : D → Option Dt
  | .tup vs => (omap D.aggDt vs).map .tup
  | d => d.aggDt

def mkAgg (cs : List D) : D :=
  match omap D.pv? cs with
  | some l => .pv (.agg l)
  | none => .agg cs

def undefD : D := .pv (.tup [])

/-! ### the store -/

structure Ent where
  key : Dt
  val : D
  born : Nat
  deriving Inhabited

inductive Xt where
  | normal
  | exit (id : Nat)
  | goto (l : Nat)
  | ret
  deriving DecidableEq, Inhabited

inductive Ob where
  | cells (cs : List D) (t : TypeId)
  | map (es : List Ent) (clock : Nat)
  | mapIter (m : Option Nat) (since : Nat) (seen : List Nat) (stepped : Nat)
  | strIter (s : List UInt8) (pos : Nat)
  | loop (state : LoopState) (pending : Option Xt) (ts : List D) (params : List Nat) (assign body : Code)
  | dead
  deriving Inhabited

structure Buf where
  sz : Nat
  t : TypeId
  fill : Nat
  deriving Inhabited

structure St where
  obs : List Ob
  bufs : List Buf
  deriving Inhabited

def St.nil : St := ⟨[], []⟩
def St.set (s : St) (i : Nat) (o : Ob) : St := { s with obs := s.obs.set i o }
def St.add (s : St) (o : Ob) : St := { s with obs := s.obs ++ [o] }

/-! ### constants, types -/

def constDt : Value → Option Dt
  | .int k n => some (.int k n)
  | .bool b => some (.bool b)
  | .string s => some (.str s.data.toList)
  | .pointer none => some .nilptr
  | .slice none 0 0 => some (.slc 0 true [])
  | .map none => some .nilmap
  | .nilFunc => some .nilfunc
  | .nilIface => some .niliface
  | .tuple vs => if vs.size = 0 then some (.tup []) else none
  | .func (.func f) first cap => if first.size = 0 ∧ cap.size = 0 then some (.func f) else none
  | _ => none

def constD (v : Value) : D :=
  match v with
  | .agg cs => match omap constDt cs.toList with
    | some l => .pv (.agg l)
    | none => .junk
  | v => match constDt v with
    | some x => .pv x
    | none => .junk

def isAggT (P : Program) (t : TypeId) : Bool :=
  match P.underlying t with
  | some (.struct _) | some (.array _ _) => true
  | _ => false

/-- the type is one of the program's -/
def okT (P : Program) (t : TypeId) : Bool := (P.underlying t).isSome

def zeroD (P : Program) (t : TypeId) : Option D :=
  match P.info? t with
  | some i => match i.zero with
    | some v => some (constD v)
    | none => none
  | none => none

/-! ### operations on data -/

def ev (ts : List D) : Operand → D
  | .tmp t => ts.getD t undefD
  | .const v => constD v
  | .global _ => .junk
  | .func f => .pv (.func f)

def intBin (op : BinOp) (k : IntKind) (a b : Int) : Option Dt :=
  match op with
  | .add => some (.int k (k.wrap (a + b)))
  | .sub => some (.int k (k.wrap (a - b)))
  | .mul => some (.int k (k.wrap (a * b)))
  | .quo => if b = 0 then none else some (.int k (k.wrap (a.tdiv b)))
  | .rem => if b = 0 then none else some (.int k (a.tmod b))
  | .and => some (.int k (k.wrap (BitVec.ofInt k.bits a &&& BitVec.ofInt k.bits b).toNat))
  | .or => some (.int k (k.wrap (BitVec.ofInt k.bits a ||| BitVec.ofInt k.bits b).toNat))
  | .xor => some (.int k (k.wrap (BitVec.ofInt k.bits a ^^^ BitVec.ofInt k.bits b).toNat))
  | .andNot => some (.int k (k.wrap (BitVec.ofInt k.bits a &&& ~~~BitVec.ofInt k.bits b).toNat))
  | .eql => some (.bool (a == b))
  | .neq => some (.bool (a != b))
  | .lss => some (.bool (a < b))
  | .leq => some (.bool (a ≤ b))
  | .gtr => some (.bool (a > b))
  | .geq => some (.bool (a ≥ b))
  | _ => none

def shiftD (op : BinOp) (k : IntKind) (a b : Int) : Option Dt :=
  if b < 0 then none else
  match op with
  | .shl => some (.int k (k.wrap (a * 2 ^ (min b.toNat k.bits))))
  | .shr => some (.int k (a.fdiv (2 ^ (min b.toNat k.bits))))
  | _ => none

def strBin (op : BinOp) (a b : List UInt8) : Option Dt :=
  match op with
  | .add => if a.length + b.length ≤ 70368744177664 then some (.str (a ++ b)) else none
  | .eql => some (.bool (a == b))
  | .neq => some (.bool (!(a == b)))
  | .lss => some (.bool (Op.bytesLess a b))
  | .leq => some (.bool (Op.bytesLess a b || a == b))
  | .gtr => some (.bool (!(Op.bytesLess a b || a == b)))
  | .geq => some (.bool (!Op.bytesLess a b))
  | _ => none

/-- cells of plain kinds that are the same -/
def eqCell : Dt → Dt → Option Bool
  | .int k a, .int k' b => if k = k' then some (a == b) else none
  | .bool a, .bool b => some (a == b)
  | .str a, .str b => some (a == b)
  | _, _ => none

def eqCells : List Dt → List Dt → Option Bool
  | [], [] => some true
  | x :: xs, y :: ys => match eqCell x y with
    | none => none
    | some c => match eqCells xs ys with
      | none => none
      | some d => some (c && d)
  | _, _ => none

/-- the kinds of a plain type's cells -/
inductive LK where
  | int (k : IntKind)
  | bool
  | str
  deriving DecidableEq

def fit1 : LK → Dt → Bool
  | .int k, .int k' _ => k == k'
  | .bool, .bool _ => true
  | .str, .str _ => true
  | _, _ => false

def fitK : List LK → List Dt → Bool
  | [], [] => true
  | k :: ks, c :: cs => fit1 k c && fitK ks cs
  | _, _ => false

def kindsOf (P : Program) : Nat → TypeId → List LK
  | 0, _ => []
  | d + 1, t =>
    match P.underlying t with
    | some .bool => [.bool]
    | some (.int k) => [.int k]
    | some .string => [.str]
    | some (.struct fs) => fs.toList.flatMap fun f => kindsOf P d f.type
    | some (.array n e) => (List.replicate n (kindsOf P d e)).flatten
    | _ => []

/-- a type whose values are cells of plain kinds in a row, each of which counts -/
def plainTy (P : Program) : Nat → TypeId → Bool
  | 0, _ => false
  | d + 1, t =>
    match P.underlying t with
    | some .bool | some (.int _) | some .string => P.cellsOf t == 1
    | some (.struct fs) =>
      !P.stoodInHeld t && fs.toList.all (fun f => f.name != "_" && plainTy P d f.type) &&
      (fs.toList.foldl (fun n f => if n == f.offset then n + P.cellsOf f.type else P.cellsOf t + 1) 0 == P.cellsOf t) &&
      (kindsOf P (d + 1) t).length == P.cellsOf t
    | some (.array n e) => plainTy P d e && n * P.cellsOf e == P.cellsOf t && (kindsOf P (d + 1) t).length == P.cellsOf t
    | _ => false

/-- the zero of a type has its cells -/
def zeroOk (P : Program) (t : TypeId) : Bool :=
  match P.info? t with
  | some i => match i.zero with
    | some v => v.cells.size == P.cellsOf t
    | none => false
  | none => false

/-- what a list of elements is -/
def listOf : D → Option (Nat × Bool × List Dt)
  | .pv (.slc sz nl es) => some (sz, nl, es)
  | .own _ sz es => some (sz, false, es)
  | .exa sz nl es => some (sz, nl, es)
  | _ => none

def eqD (P : Program) (t : TypeId) (x y : D) : Option Bool :=
  match P.underlying t with
  | none => none
  | some .bool => match x, y with
    | .pv (.bool a), .pv (.bool b) => some (a == b)
    | _, _ => none
  | some (.struct _) | some (.array _ _) => match x, y with
    | .pv (.agg xs), .pv (.agg ys) => if plainTy P 5 t && fitK (kindsOf P 5 t) xs && fitK (kindsOf P 5 t) ys then eqCells xs ys else none
    | _, _ => none
  | some (.pointer _) => match x, y with
    | .pv .nilptr, .pv .nilptr => some true
    | .pv .nilptr, .ptr _ _ | .pv .nilptr, .cptr .. | .ptr _ _, .pv .nilptr | .cptr .., .pv .nilptr => some false
    | _, _ => none
  | some (.slice _) => match x, y with
    | x, .pv (.slc _ true _) => match x with
      | .msl .. => some false
      | x => match listOf x with
        | some (_, a, _) => some a
        | none => none
    | _, _ => none
  | some (.map _ _) => match x, y with
    | .pv .nilmap, .pv .nilmap => some true
    | .pv .nilmap, .map _ | .map _, .pv .nilmap => some false
    | _, _ => none
  | some (.func _ _ _) => match x, y with
    | .pv .nilfunc, .pv .nilfunc => some true
    | .pv .nilfunc, .func .. | .func .., .pv .nilfunc | .pv .nilfunc, .pv (.func _) | .pv (.func _), .pv .nilfunc => some false
    | _, _ => none
  | some (.interface _) => match x, y with
    | .pv .niliface, .iface .. | .iface .., .pv .niliface => some false
    | _, _ => none
  | _ => none

def binD (P : Program) (op : BinOp) (t : TypeId) (x y : D) : Option D :=
  match x, y with
  | .pv (.int k a), .pv (.int k' b) =>
    match op with
    | .shl | .shr => (shiftD op k a b).map .pv
    | _ => if k = k' then (intBin op k a b).map .pv else none
  | .pv (.str a), .pv (.str b) => (strBin op a b).map .pv
  | x, y =>
    match op with
    | .eql => (eqD P t x y).map fun b => .pv (.bool b)
    | .neq => (eqD P t x y).map fun b => .pv (.bool (!b))
    | _ => none

def unD (op : UnOp) (x : D) : Option D :=
  match op, x with
  | .not, .pv (.bool b) => some (.pv (.bool (!b)))
  | .neg, .pv (.int k n) => some (.pv (.int k (k.wrap (0 - n))))
  | .xor, .pv (.int k n) => some (.pv (.int k (k.wrap (BitVec.ofInt k.bits (if k.signed then -1 else k.max) ^^^ BitVec.ofInt k.bits n).toNat)))
  | _, _ => none

def byteD (b : UInt8) : Dt := .int .u8 b.toNat
def byteOf? : Dt → Option UInt8
  | .int .u8 n => some (UInt8.ofNat n.toNat)
  | _ => none

def fillL (cs : List D) (off : Nat) : List D → List D
  | [] => cs
  | v :: vs => fillL (cs.set off v) (off + 1) vs

/-- the parts of a literal laid over zeros -/
def layParts (place : Nat → Option (Nat × Nat)) : List D → List (Nat × D) → Option (List D)
  | cs, [] => some cs
  | cs, (i, d) :: r => match place i with
    | none => none
    | some (off, size) => if d.cells.length = size ∧ off + size ≤ cs.length ∧ d.cells.all D.one = true then layParts place (fillL cs off d.cells) r else none

def buildD (P : Program) (t : TypeId) (parts : List (Nat × D)) : Option D :=
  match zeroD P t with
  | none => none
  | some z => if !z.cells.all D.one then none else match P.underlying t with
    | some (.struct fs) => if !fs.toList.all (fun f => okT P f.type) then none else (layParts (fun i => (fs[i]?).map fun f => (f.offset, P.cellsOf f.type)) z.cells parts).map mkAgg
    | some (.array _ e) => if !okT P e then none else (layParts (fun i => some (i * P.cellsOf e, P.cellsOf e)) z.cells parts).map mkAgg
    | _ => none

/-- the elements of a slice literal: at each place its part -/
def litElems (z : Dt) (len : Nat) (parts : List (Nat × Dt)) : List Dt :=
  parts.foldl (fun es (i, x) => es.set i x) (List.replicate len z)

def fits (sz : Nat) (x : Dt) : Bool := x.cells.length == sz && x.cells.all Dt.one

def buildSliceD (P : Program) (t : TypeId) (len : Nat) (parts : List (Nat × D)) : Option D :=
  match P.underlying t with
  | some (.slice e) =>
    match omap (fun (p : Nat × D) => p.2.aggDt.map fun x => (p.1, x)) parts with
    | some ps =>
      if (ps.map (·.1) == List.range len) && ps.all (fun p => fits (P.cellsOf e) p.2) && len * P.cellsOf e ≤ 16777216 && 0 < P.cellsOf e && zeroOk P e then some (.exa (P.cellsOf e) false (ps.map (·.2))) else none
    | none => none
  | _ => none

def intOf? : D → Option Int
  | .pv (.int _ n) => some n
  | _ => none

def optInt : Option D → Int → Option Int
  | none, d => some d
  | some x, _ => intOf? x

def sliceD (P : Program) (t : TypeId) (x : D) (lo hi mx : Option D) : Option D :=
  if (mx.isSome && hi.isNone) = true then none else
  match P.underlying t, x with
  | some .string, .pv (.str s) =>
    if mx.isSome then none else
    match optInt lo 0, optInt hi s.length with
    | some l, some h => if 0 ≤ l ∧ l ≤ h ∧ h ≤ s.length then some (.pv (.str ((s.drop l.toNat).take (h - l).toNat))) else none
    | _, _ => none
  | some (.array n e), .ptr id off =>
    match optInt lo 0, optInt hi n with
    | some l, some h =>
      if 0 ≤ l ∧ l ≤ h ∧ h ≤ n ∧ 0 < P.cellsOf e then
        match mx with
        | none => some (.msl id (off + l.toNat * P.cellsOf e) (h - l).toNat (P.cellsOf e))
        | some m => match intOf? m with
          | some m => if h ≤ m ∧ m ≤ n then some (.msl id (off + l.toNat * P.cellsOf e) (h - l).toNat (P.cellsOf e)) else none
          | none => none
      else none
    | _, _ => none
  | some (.slice e), .msl id off n sz =>
    match optInt lo 0, optInt hi n with
    | some l, some h =>
      if 0 ≤ l ∧ l ≤ h ∧ h ≤ n ∧ sz = P.cellsOf e ∧ 0 < sz then
        match mx with
        | none => some (.msl id (off + l.toNat * sz) (h - l).toNat sz)
        | some m => match intOf? m with
          | some m => if m = h then some (.msl id (off + l.toNat * sz) (h - l).toNat sz) else none
          | none => none
      else none
    | _, _ => none
  | some (.slice e), x =>
    match listOf x with
    | some (sz, nl, es) =>
      match optInt lo 0, optInt hi es.length with
      | some l, some h =>
        if 0 ≤ l ∧ l ≤ h ∧ h ≤ es.length ∧ (sz = P.cellsOf e ∨ nl = true) ∧ okT P e = true then
          match mx with
          | none => some (.pv (.slc sz nl ((es.drop l.toNat).take (h - l).toNat)))
          | some m => match intOf? m with
            | some m => if m = h then some (.exa sz nl ((es.drop l.toNat).take (h - l).toNat)) else none
            | none => none
        else none
      | _, _ => none
    | none => none
  | _, _ => none

def fieldAddrD (P : Program) (s : TypeId) (x : D) (f : Nat) : Option D :=
  match P.underlying s with
  | some (.struct fs) => match fs[f]? with
    | some fd => if P.cellsOf fd.type = 0 then none else
      match x with
      | .ptr id off => some (.ptr id (off + fd.offset))
      | .cptr sz es i off => some (.cptr sz es i (off + fd.offset))
      | _ => none
    | none => none
  | _ => none

def partD (P : Program) (t : TypeId) (cs : List D) (off : Nat) : Option D :=
  if !okT P t then none else
  if isAggT P t then (if off + P.cellsOf t ≤ cs.length then some (mkAgg ((cs.drop off).take (P.cellsOf t))) else none)
  else cs[off]?

def fieldD (P : Program) (s : TypeId) (x : D) (f : Nat) : Option D :=
  match P.underlying s with
  | some (.struct fs) => match fs[f]? with
    | some fd => match x with
      | .pv (.agg cs) => partD P fd.type (cs.map .pv) fd.offset
      | .agg cs => partD P fd.type cs fd.offset
      | _ => none
    | none => none
  | _ => none

def indexAddrD (P : Program) (t : TypeId) (x i : D) : Option D :=
  match intOf? i with
  | none => none
  | some i =>
    match P.underlying t with
    | some (.array len e) =>
      if 0 ≤ i ∧ i < len ∧ okT P e = true then
        match x with
        | .ptr id off => some (.ptr id (off + i.toNat * P.cellsOf e))
        | .cptr sz es k off => some (.cptr sz es k (off + i.toNat * P.cellsOf e))
        | _ => none
      else none
    | some (.slice e) => match x with
      | .msl id off n sz => if 0 ≤ i ∧ i < n ∧ sz = P.cellsOf e ∧ okT P e = true then some (.ptr id (off + i.toNat * sz)) else none
      | x => match listOf x with
      | some (sz, _, es) => if 0 ≤ i ∧ i < es.length ∧ sz = P.cellsOf e ∧ okT P e = true then some (.cptr sz es i.toNat 0) else none
      | none => none
    | _ => none

def indexD (P : Program) (t : TypeId) (x i : D) : Option D :=
  match intOf? i with
  | none => none
  | some i =>
    match P.underlying t, x with
    | some (.array len e), .pv (.agg cs) => if 0 ≤ i ∧ i < len ∧ okT P e = true then partD P e (cs.map .pv) (i.toNat * P.cellsOf e) else none
    | some (.array len e), .agg cs => if 0 ≤ i ∧ i < len ∧ okT P e = true then partD P e cs (i.toNat * P.cellsOf e) else none
    | some .string, .pv (.str s) => if 0 ≤ i ∧ i < s.length then some (.pv (.int .u8 (s.getD i.toNat 0).toNat)) else none
    | _, _ => none

def extractD (x : D) (i : Nat) : Option D :=
  match x with
  | .tup vs => vs[i]?
  | .pv (.tup xs) => (xs[i]?).map .pv
  | _ => none

def minMaxD (isMax : Bool) : D → List D → Option D
  | x, [] => some x
  | .pv (.int k a), .pv (.int k' b) :: r =>
    if k = k' then minMaxD isMax (.pv (.int k (if isMax then (if b > a then b else a) else (if b < a then b else a)))) r else none
  | _, _ => none

/-! ### micro-operations: what an operation does to the store, its operands read -/

/-- where appended elements come from -/
inductive Src where
  | lit (ys : List Dt)
  | mem (id off n sz : Nat)

inductive Mop where
  | val (d : D)
  | load (id off n : Nat) (whole : Bool)
  | store (id off : Nat) (vs : List D)
  | alloc (cs : List D) (t : TypeId)
  | app (id sz by_ : Nat) (es : List Dt) (ys : Src)
  | appNew (t : TypeId) (sz by_ : Nat) (base : D) (es : List Dt) (ys : Src)
  | mkBuf (t : TypeId) (es : List Dt)
  | mkMap
  | lookup (id : Nat) (kt : TypeId) (k : Dt) (zero : D) (ok : Bool)
  | mput (id : Nat) (kt : TypeId) (k : Dt) (v : D)
  | mentry (id : Nat) (kt : TypeId) (k : Dt) (zero : D)
  | estore (id : Nat) (stamp : Int) (v : D)
  | mdel (id : Nat) (kt : TypeId) (k : Dt)
  | mlen (id : Nat)
  | mkIter (o : Option Nat)
  | mkStrIter (s : List UInt8)
  | next (id : Nat)
  | entry (id : Nat)
  | call (f : FuncId) (args : List D)
  | round (l : Nat) (args : List D)
  | fail

def Mop.ofOpt : Option D → Mop
  | some d => .val d
  | none => .fail

def normD (d : D) : D := match d.toDt with
  | some x => .pv x
  | none => d

/-! ### maps -/

def keyEq (P : Program) (kt : TypeId) (a b : Dt) : Option Bool :=
  match a, b with
  | .agg xs, .agg ys => if isAggT P kt && plainTy P 5 kt && fitK (kindsOf P 5 kt) xs && fitK (kindsOf P 5 kt) ys then eqCells xs ys else none
  | a, b => if !isAggT P kt && plainTy P 1 kt && fitK (kindsOf P 1 kt) [a] && fitK (kindsOf P 1 kt) [b] then eqCell a b else none

/-- a key that fits its map's type -/
def keyOk (P : Program) (kt : TypeId) (a : Dt) : Bool :=
  match a with
  | .agg xs => isAggT P kt && plainTy P 5 kt && fitK (kindsOf P 5 kt) xs
  | a => !isAggT P kt && plainTy P 1 kt && fitK (kindsOf P 1 kt) [a]

def limit : Nat := 35184372088832

def decLen (P : Program) (t : TypeId) (x : D) : Mop :=
  match P.underlying t, x with
  | some .string, .pv (.str s) => .val (.pv (.int .i64 s.length))
  | some (.array n _), _ => .val (.pv (.int .i64 n))
  | some (.slice _), .msl _ _ n _ => .val (.pv (.int .i64 n))
  | some (.slice _), x => match listOf x with
    | some (_, _, es) => .val (.pv (.int .i64 es.length))
    | none => .fail
  | some (.map _ _), .map id => .mlen id
  | some (.map _ _), .pv .nilmap => .val (.pv (.int .i64 0))
  | _, _ => .fail

def srcD (P : Program) (e u : TypeId) (y : D) : Option Src :=
  match P.underlying u, y with
  | some (.slice _), .msl id off n sz => if sz = P.cellsOf e then some (.mem id off n sz) else none
  | some (.slice _), y => match listOf y with
    | some (sz, nl, ys) => if sz = P.cellsOf e ∨ nl = true then some (.lit ys) else none
    | none => none
  | some .string, .pv (.str s) => if P.cellsOf e = 1 then some (.lit (s.map byteD)) else none
  | _, _ => none

def appMop (P : Program) (e : TypeId) (x : D) (src : Src) : Mop :=
  if (decide (0 < P.cellsOf e) && zeroOk P e) = true then
    match x with
    | .pv (.slc sz nl _) => if nl then .appNew e (P.cellsOf e) (P.bytesOf e) (.pv (.slc sz true [])) [] src else .fail
    | .exa sz nl es => if sz = P.cellsOf e ∨ nl = true then .appNew e (P.cellsOf e) (P.bytesOf e) (.exa sz nl es) es src else .fail
    | .own id sz es => if sz = P.cellsOf e then .app id sz (P.bytesOf e) es src else .fail
    | _ => .fail
  else .fail

def decApp (P : Program) (t u : TypeId) (x y : D) : Mop :=
  match P.underlying t with
  | some (.slice e) =>
    match srcD P e u y with
    | none => .fail
    | some src => appMop P e x src
  | _ => .fail

def decDel (P : Program) (t : TypeId) (m k : D) : Mop :=
  match P.underlying t, k.aggDt with
  | some (.map kt _), some k => match m with
    | .map id => .mdel id kt k
    | _ => .fail
  | _, _ => .fail

def decBuiltin (P : Program) (c : Call) (b : Builtin) (args : List D) : Mop :=
  match b, args with
  | .len, [x] => match c.argTypes[0]? with
    | some t => decLen P t x
    | none => .fail
  | .min, x :: r => .ofOpt (minMaxD false x r)
  | .max, x :: r => .ofOpt (minMaxD true x r)
  | .append, [x, y] =>
    match c.argTypes[0]?, c.argTypes[1]? with
    | some t, some u => decApp P t u x y
    | _, _ => .fail
  | .delete, [m, k] => match c.argTypes[0]? with
    | some t => decDel P t m k
    | none => .fail
  | _, _ => .fail

def decCall (P : Program) (ts : List D) (c : Call) : Mop :=
  match c.callee with
  | .value f =>
    match ev ts f with
    | .pv (.func g) => .call g (c.args.toList.map (ev ts))
    | .func g first cap => .call g (first ++ c.args.toList.map (ev ts) ++ cap)
    | .yield l => .round l (c.args.toList.map (ev ts))
    | _ => .fail
  | .invoke _ _ => .fail
  | .builtin b => decBuiltin P c b (c.args.toList.map (ev ts))

def dec (P : Program) (o : Oper) (ts : List D) : Mop :=
  match o.op with
  | .move x | .assign x => .val (ev ts x)
  | .pick c a b => match ev ts c with
    | .pv (.bool t) => .val (if t then ev ts a else ev ts b)
    | _ => .fail
  | .alloc t => match zeroD P t with
    | some z => if z.cells.all D.one then .alloc z.cells t else .fail
    | none => .fail
  | .box t x => if (ev ts x).cells.all D.one then .alloc (ev ts x).cells t else .fail
  | .build t parts => .ofOpt (buildD P t (parts.toList.map fun p => (p.1, ev ts p.2)))
  | .buildSlice t len parts => .ofOpt (buildSliceD P t len (parts.toList.map fun p => (p.1, ev ts p.2)))
  | .load t a => match ev ts a with
    | .ptr id off => if okT P t then .load id off (P.cellsOf t) (isAggT P t) else .fail
    | .cptr _ es i off => match es[i]? with
      | some e => .ofOpt (partD P t (e.cells.map .pv) off)
      | none => .fail
    | _ => .fail
  | .store t a x => match ev ts a with
    | .ptr id off => if okT P t = true ∧ (ev ts x).cells.length = P.cellsOf t ∧ (ev ts x).cells.all D.one = true then .store id off (ev ts x).cells else .fail
    | _ => .fail
  | .nilCheck x => match ev ts x with
    | .ptr id off => .val (.ptr id off)
    | .cptr sz es i off => .val (.cptr sz es i off)
    | _ => .fail
  | .binOp op t x y _ => .ofOpt (binD P op t (ev ts x) (ev ts y))
  | .unOp op _ x => .ofOpt (unD op (ev ts x))
  | .convert src dst x => match P.underlying src, P.underlying dst, ev ts x with
    | some _, some (.int k), .pv (.int _ n) => .val (.pv (.int k (k.wrap n)))
    | some _, some .string, .pv (.str s) => .val (.pv (.str s))
    | some _, some (.slice e), .pv (.str s) => match P.underlying e with
      | some (.int .u8) => if P.cellsOf e = 1 ∧ s.length ≤ limit then .mkBuf e (s.map byteD) else .fail
      | _ => .fail
    | some (.slice e), some .string, x => match P.underlying e, listOf x with
      | some (.int .u8), some (sz, nl, es) => match omap byteOf? es with
        | some l => if sz = 1 ∨ nl = true then .val (.pv (.str l)) else .fail
        | none => .fail
      | _, _ => .fail
    | _, _, _ => .fail
  | .makeInterface t x => match P.underlying t with
    | some (.interface _) | none => .fail
    | some _ => .val (.iface t (ev ts x))
  | .makeFunc fn first cap => match fn with
    | .func f => .val (.func f (first.toList.map (ev ts)) (cap.toList.map (ev ts)))
    | _ => .fail
  | .makeMap t r => match r with
    | none => .mkMap
    | some x => match P.underlying t, ev ts x with
      | some (.map _ _), .pv (.int _ _) => .mkMap
      | _, _ => .fail
  | .slice t x lo hi mx => .ofOpt (sliceD P t (ev ts x) (lo.map (ev ts)) (hi.map (ev ts)) (mx.map (ev ts)))
  | .fieldAddr s x f => .ofOpt (fieldAddrD P s (ev ts x) f)
  | .field s x f => .ofOpt (fieldD P s (ev ts x) f)
  | .indexAddr t x i => .ofOpt (indexAddrD P t (ev ts x) (ev ts i))
  | .index t x i => .ofOpt (indexD P t (ev ts x) (ev ts i))
  | .lookup t x k ok => match P.underlying t, (ev ts k).aggDt with
    | some (.map kt e), some k => match zeroD P e with
      | some z => match ev ts x with
        | .map id => .lookup id kt k z ok
        | .pv .nilmap => if keyOk P kt k then .val (if ok then .tup [z, .pv (.bool false)] else z) else .fail
        | _ => .fail
      | none => .fail
    | _, _ => .fail
  | .mapUpdate t m k x => match P.underlying t, (ev ts k).aggDt, ev ts m with
    | some (.map kt _), some k, .map id => .mput id kt k (normD (ev ts x))
    | _, _, _ => .fail
  | .mapEntry t m k => match P.underlying t, (ev ts k).aggDt, ev ts m with
    | some (.map kt e), some k, .map id => match zeroD P e with
      | some z => .mentry id kt k z
      | none => .fail
    | _, _, _ => .fail
  | .entryStore _ m s x => match ev ts m, ev ts s with
    | .map id, .pv (.int _ n) => .estore id n (normD (ev ts x))
    | _, _ => .fail
  | .range t x => match P.underlying t, ev ts x with
    | some .string, .pv (.str s) => .mkStrIter s
    | some (.map _ _), .pv .nilmap => .mkIter none
    | some (.map _ _), .map id => .mkIter (some id)
    | _, _ => .fail
  | .next it isString => if isString then .fail else match ev ts it with
    | .iter id => .next id
    | _ => .fail
  | .entry it => match ev ts it with
    | .iter id => .entry id
    | _ => .fail
  | .extract t i => .ofOpt (extractD (ev ts t) i)
  | .call c => decCall P ts c
  | _ => .fail

def findEnt (P : Program) (kt : TypeId) (k : Dt) : List Ent → Nat → Option (Option (Nat × Ent))
  | [], _ => if keyOk P kt k then some none else none
  | e :: es, i => match keyEq P kt k e.key with
    | none => none
    | some true => some (some (i, e))
    | some false => findEnt P kt k es (i + 1)

/-! ### what a micro-operation gives -/

inductive OpR where
  | val (d : D) (s : St)
  | choose (cs : List (D × St))
  | call (f : FuncId) (args : List D)
  | round (l : Nat) (args : List D)
  | fail

/-- the cells of rows of sz, as elements -/
def chunks (sz : Nat) : Nat → List D → Option (List Dt)
  | 0, _ => some []
  | n + 1, cs => match omap D.pv? (cs.take sz) with
    | some l => match chunks sz n (cs.drop sz) with
      | some r => some ((if sz = 1 then l.headD (.tup []) else .agg l) :: r)
      | none => none
    | none => none

/-- what a slice over a variable's cells holds -/
def memList (s : St) (id off n sz : Nat) : Option (List Dt) :=
  match s.obs[id]? with
  | some (.cells cs _) => if off + n * sz ≤ cs.length then chunks sz n (cs.drop off) else none
  | _ => none

def Src.get (s : St) : Src → Option (List Dt)
  | .lit ys => some ys
  | .mem id off n sz => memList s id off n sz

/-- a call's answer, as data: what its own variables hold is constant from now on -/
def cellDtS (s : St) : D → Option Dt
  | .msl id off n sz => if 0 < sz then (memList s id off n sz).map (.slc sz false) else none
  | d => d.cellDt

def aggDtS (s : St) : D → Option Dt
  | .agg cs => (omap (cellDtS s) cs).map .agg
  | d => cellDtS s d

def toDtS (s : St) : D → Option Dt
  | .tup vs => (omap (aggDtS s) vs).map .tup
  | d => aggDtS s d

def exec (P : Program) (m : Mop) (s : St) : OpR :=
  match m with
  | .val d => .val d s
  | .load id off n whole => match s.obs[id]? with
    | some (.cells cs _) =>
      if whole then (if off + n ≤ cs.length then .val (mkAgg ((cs.drop off).take n)) s else .fail)
      else match cs[off]? with
        | some d => .val d s
        | none => .fail
    | _ => .fail
  | .store id off vs => match s.obs[id]? with
    | some (.cells cs t) => if off + vs.length ≤ cs.length then .val undefD (s.set id (.cells (fillL cs off vs) t)) else .fail
    | _ => .fail
  | .alloc cs t => .val (.ptr s.obs.length 0) (s.add (.cells cs t))
  | .app id sz by_ es src => match src.get s with
    | some ys => match s.bufs[id]? with
      | some b => if b.fill = es.length ∧ b.sz = sz ∧ (es.length + ys.length) * by_ ≤ limit ∧ es.length + ys.length ≤ limit then .val (.own id sz (es ++ ys)) { s with bufs := s.bufs.set id { b with fill := es.length + ys.length } } else .fail
      | none => .fail
    | none => .fail
  | .appNew t sz by_ base es src => match src.get s with
    | some ys =>
      if ys.isEmpty then .val base s
      else if (es.length + ys.length) * by_ ≤ limit ∧ es.length + ys.length ≤ limit then
        .val (.own s.bufs.length sz (es ++ ys)) { s with bufs := s.bufs ++ [⟨sz, t, es.length + ys.length⟩] }
      else .fail
    | none => .fail
  | .mkBuf t es => .val (.own s.bufs.length 1 es) { s with bufs := s.bufs ++ [⟨1, t, es.length⟩] }
  | .mkMap => .val (.map s.obs.length) (s.add (.map [] 0))
  | .lookup id kt k z ok => match s.obs[id]? with
    | some (.map es _) => match findEnt P kt k es 0 with
      | some (some (_, e)) => .val (if ok then .tup [e.val, .pv (.bool true)] else e.val) s
      | some none => .val (if ok then .tup [z, .pv (.bool false)] else z) s
      | none => .fail
    | _ => .fail
  | .mput id kt k v => match s.obs[id]? with
    | some (.map es clock) => match findEnt P kt k es 0 with
      | some (some (i, e)) => .val undefD (s.set id (.map (es.set i { key := k, val := v, born := e.born }) clock))
      | some none => .val undefD (s.set id (.map (es ++ [⟨k, v, clock⟩]) (clock + 1)))
      | none => .fail
    | _ => .fail
  | .mentry id kt k z => match s.obs[id]? with
    | some (.map es clock) => match findEnt P kt k es 0 with
      | some (some (i, e)) => .val (.tup [e.val, .pv (.int .i64 e.born)]) (s.set id (.map (es.set i { e with key := k }) clock))
      | some none => .val (.tup [z, .pv (.int .i64 clock)]) (s.set id (.map (es ++ [⟨k, z, clock⟩]) (clock + 1)))
      | none => .fail
    | _ => .fail
  | .estore id stamp v => match s.obs[id]? with
    | some (.map es clock) => match es.findIdx? (fun e => (e.born : Int) == stamp) with
      | some i => match es[i]? with
        | some e => .val undefD (s.set id (.map (es.set i { e with val := v }) clock))
        | none => .fail
      | none => .fail
    | _ => .fail
  | .mdel id kt k => match s.obs[id]? with
    | some (.map es clock) => match findEnt P kt k es 0 with
      | some (some (i, _)) => .val undefD (s.set id (.map (es.eraseIdx i) clock))
      | some none => .val undefD s
      | none => .fail
    | _ => .fail
  | .mlen id => match s.obs[id]? with
    | some (.map es _) => .val (.pv (.int .i64 es.length)) s
    | _ => .fail
  | .mkIter none => .val (.iter s.obs.length) (s.add (.mapIter none 0 [] 0))
  | .mkIter (some id) => match s.obs[id]? with
    | some (.map _ clock) => .val (.iter s.obs.length) (s.add (.mapIter (some id) clock [] clock))
    | _ => .fail
  | .mkStrIter str => .val (.iter s.obs.length) (s.add (.strIter str 0))
  | .next id => match s.obs[id]? with
    | some (.mapIter none _ _ _) => .val (.pv (.tup [.bool false])) s
    | some (.mapIter (some m) since seen stepped) => match s.obs[m]? with
      | some (.map es clock) =>
        -- no entry came since the range began
        if clock = since ∧ stepped = since ∧ es.all (fun e => decide (e.born < since)) = true then
          let left := es.filter fun e => !seen.contains e.born
          if left.isEmpty then .val (.pv (.tup [.bool false])) s
          else .choose (left.map fun e => (.tup [.pv (.bool true), .pv e.key, e.val], s.set id (.mapIter (some m) since (seen ++ [e.born]) clock)))
        else .fail
      | _ => .fail
    | _ => .fail
  | .entry id => match s.obs[id]? with
    | some (.mapIter (some m) _ seen stepped) => match s.obs[m]? with
      | some (.map es clock) => match seen.getLast? with
        | some stamp => if clock = stepped then match es.find? (·.born == stamp) with
            | some e => .val (.tup [.pv e.key, e.val]) s
            | none => .fail
          else .fail
        | none => .fail
      | _ => .fail
    | _ => .fail
  | .call f args => .call f args
  | .round l args => .round l args
  | .fail => .fail

/-! ### what may come in either order -/

inductive Fp where
  | pure
  /-- cells of a variable -/
  | rd (id lo hi : Nat)
  | wr (id lo hi : Nat)
  /-- a whole object; a growing slice -/
  | rdo (id : Nat)
  | wro (id : Nat)
  | wrb (id : Nat)
  /-- a new object, a new slice: their numbers -/
  | al (n : Nat)
  | alb (n : Nat)
  /-- these objects -/
  | rdl (ids : List Nat)
  | bar
  deriving DecidableEq, Inhabited

def ptrId? : D → Option Nat
  | .ptr id _ => some id
  | _ => none

def fpOf (iso hand look : FuncId → Bool) (s : St) : Mop → Fp
  | .val _ => .pure
  | .load id off n whole => .rd id off (off + if whole then n else 1)
  | .store id off vs => .wr id off (off + vs.length)
  | .alloc .. | .mkMap => .al s.obs.length
  | .app id _ _ _ (.lit _) => .wrb id
  | .appNew _ _ _ _ _ (.lit _) | .mkBuf .. => .alb s.bufs.length
  | .lookup id .. | .mlen id => .rdo id
  | .mput id .. | .mentry id .. | .estore id .. | .mdel id .. => .wro id
  | .call f args => if iso f then (if hand f then .alb s.bufs.length else .pure) else if look f then .rdl (args.filterMap ptrId?) else .bar
  | _ => .bar

/-- may the two (the first the earlier in the text) come in the other order? -/
def compatF : Fp → Fp → Bool
  | .pure, _ | _, .pure => true
  | .bar, _ | _, .bar => false
  | .rd id a b, .wr j c d | .wr id a b, .rd j c d | .wr id a b, .wr j c d => id != j || b ≤ c || d ≤ a
  | .rd id _ _, .wro j | .rdo id, .wr j _ _ | .rdo id, .wro j | .wr id _ _, .rdo j | .wr id _ _, .wro j | .wro id, .rd j _ _ | .wro id, .rdo j | .wro id, .wr j _ _ | .wro id, .wro j => id != j
  | .rdl ids, .wr j _ _ | .rdl ids, .wro j | .wr j _ _, .rdl ids | .wro j, .rdl ids => !ids.contains j
  | .wrb i, .wrb j => i != j
  | .al n, .rd j _ _ | .al n, .wr j _ _ | .al n, .rdo j | .al n, .wro j => n != j
  | .al n, .rdl ids => !ids.contains n
  | .al _, .al _ | .alb _, .alb _ => false
  | .alb n, .wrb j => n != j
  | .rd .., _ | .rdo _, _ | .rdl _, _ | .wr .., _ | .wro _, _ | .wrb _, _ | .al _, _ | .alb _, _ => true

def opTmps (o : Oper) : List Tmp := o.op.operands.toList.filterMap fun | .tmp t => some t | _ => none

def guardTmp (ops : Array Oper) (o : Oper) : List Tmp :=
  match o.guard with
  | none => []
  | some (j, _) => ((ops[j]?).bind (·.dst)).toList

/-- what two operations, in either order, do to the temporaries is one -/
def compatT (ops : Array Oper) (a b : Oper) : Bool :=
  (a.dst.toList.all fun t => !(opTmps b).contains t && !(guardTmp ops b).contains t && b.dst != some t) &&
  (b.dst.toList.all fun t => !(opTmps a).contains t && !(guardTmp ops a).contains t)

/-! ### code -/

/-- must the outcome be one; how many objects and slices there were where the frame began -/
structure Md where
  det : Bool
  n : Nat
  m : Nat

inductive Cl where
  | call (det : Bool) (f : FuncId) (args : List D) (s : St)
  | round (det : Bool) (l : Nat) (args : List D) (s : St)
  | loop (md : Md) (body : Code) (ts : List D) (s : St)
  | scope (md : Md) (body rest : Code) (ts : List D) (s : St)

def Cl.det : Cl → Bool
  | .call d .. | .round d .. => d
  | .loop md .. | .scope md .. => md.det

structure Res where
  x : Xt
  ts : List D
  s : St

abbrev RT := Cl → (Res → Prop) → Prop

structure Par where
  P : Program
  /-- functions of data alone -/
  iso : FuncId → Bool
  /-- among these: those whose answer is a slice of their own that the caller goes on with -/
  hand : FuncId → Bool
  /-- functions that only look at what they are pointed to, and answer plain values -/
  look : FuncId → Bool

def putD (ts : List D) (dst : Option Tmp) (d : D) : List D :=
  match dst with
  | some t => ts.set t d
  | none => ts

def D.under (n m : Nat) : D → Bool
  | .pv _ | .cptr .. | .exa .. => true
  | .ptr id _ | .msl id .. | .yield id | .map id | .iter id => id < n
  | .own id .. => id < m
  | .func _ a b => a.all (cellBelow n m) && b.all (cellBelow n m)
  | .agg cs => cs.all (cellBelow n m)
  | .tup vs => vs.all (aggBelow n m)
  | .iface _ v => cellBelow n m v
  | .junk => true
  where
  cellBelow (n m : Nat) : D → Bool
    | .pv _ | .cptr .. | .exa .. => true
    | .ptr id _ | .msl id .. | .yield id | .map id | .iter id => id < n
    | .own id .. => id < m
    | .func _ [] [] => true
    | .junk => true
    | _ => false
  aggBelow (n m : Nat) : D → Bool
    | .agg cs => cs.all (cellBelow n m)
    | d => cellBelow n m d

def Ob.under (n m : Nat) : Ob → Bool
  | .cells cs _ => cs.all (D.under n m)
  | .map es _ => es.all fun e => e.val.under n m
  | .mapIter (some i) .. => i < n
  | .mapIter none .. | .strIter .. | .dead => true
  | .loop _ _ ts _ _ _ => ts.all (D.under n m)

/-- what a call made and nobody knows any more is forgotten -/
def tidy (n m : Nat) (r : D) (s : St) : St :=
  if r.under n m && (s.obs.take n).all (Ob.under n m) then ⟨s.obs.take n, s.bufs.take m⟩ else s

/-- the evaluator stands still: nothing is proved (no constructor) -/
inductive Bad {α : Type} (a : α) : Prop

def allP {α : Type} (K : α → Prop) : List α → Prop
  | [] => True
  | [c] => K c
  | c :: r => K c ∧ allP K r

def Dt.scalar : Dt → Bool
  | .int .. | .bool _ | .str _ => true
  | _ => false

/-- what is pointed to, as it stands now -/
def snapD (s : St) : D → Option D
  | .ptr id off => match s.obs[id]? with
    | some (.cells cs _) => match omap D.cellDt cs with
      | some l => some (.cptr cs.length [.agg l] 0 off)
      | none => none
    | _ => none
  | .cptr sz es i off => some (.cptr sz es i off)
  | d => d.aggDt.map .pv

/-- what the caller has of a call of data alone -/
def isoRes (T : Par) (f : FuncId) (o : Oper) (s' : St) (d : D) (s : St) (K : D → St → Prop) : Prop :=
  match T.hand f, d with
  | true, .own id sz es => match s'.bufs[id]? with
    | some b => if b.fill = es.length ∧ b.sz = sz then K (.own s.bufs.length sz es) { s with bufs := s.bufs ++ [b] } else Bad o
    | none => Bad o
  | _, d => match toDtS s' d with
    | some x => K (.pv x) s
    | none => Bad o

def runR (T : Par) (R : RT) (det : Bool) (o : Oper) (r : OpR) (s : St) (K : D → St → Prop) : Prop :=
  match r with
  | .val d s' => K d s'
  | .choose cs => (if det then cs.length = 1 else True) ∧ allP (fun c => K c.1 c.2) cs
  | .call f args =>
    if T.iso f then
      match omap D.aggDt args with
      | some xs => R (.call det f (xs.map .pv) .nil) fun r => match r.ts with
        | [d] => isoRes T f o r.s d s K
        | _ => Bad o
      | none => Bad o
    else if T.look f then
      match omap (snapD s) args with
      | some xs => R (.call det f xs .nil) fun r => match r.ts with
        | [.pv x] => if x.scalar then K (.pv x) s else Bad o
        | _ => Bad o
      | none => Bad o
    else R (.call det f args s) fun r => match r.ts with
      | [d] => K d (tidy s.obs.length s.bufs.length d r.s)
      | _ => Bad o
  | .round l args => R (.round det l args s) fun r => match r.ts with
    | [d] => K d r.s
    | _ => Bad o
  | .fail => Bad o

/-- is an operation wanted? -/
def wants (ops : Array Oper) (o : Oper) (ts : List D) (K : Bool → Prop) : Prop :=
  match o.guard with
  | none => K true
  | some (j, want) => match (ops[j]?).bind (·.dst) with
    | some t => match ts.getD t undefD with
      | .pv (.bool b) => if b = want then K true else K false
      | .pv (.tup []) => K false
      | _ => Bad o
    | none => Bad o

def dList (T : Par) (R : RT) (det : Bool) (ops : Array Oper) (K : List D → St → Prop) : List Oper → List D → St → Prop
  | [], ts, s => K ts s
  | o :: rest, ts, s =>
    wants ops o ts fun w =>
      if w then runR T R det o (exec T.P (dec T.P o ts) s) s fun d s' => dList T R det ops K rest (putD ts o.dst d) s'
      else dList T R det ops K rest (putD ts o.dst undefD) s

/-- a region whose order Go leaves open: in the text's order; whatever may come in another order is such that it does not matter -/
def dDraw (T : Par) (R : RT) (ops : Array Oper) (bef : Array Nat) (K : List D → St → Prop) : Nat → List (Nat × Oper × Fp) → List Oper → List D → St → Prop
  | _, _, [], ts, s => K ts s
  | i, acc, o :: rest, ts, s =>
    wants ops o ts fun w =>
      let fp := if w then fpOf T.iso T.hand T.look s (dec T.P o ts) else .pure
      if acc.all (fun (j, p, f) => (bef.getD i 0).testBit j || (compatF f fp && compatT ops p o)) then
        if w then runR T R true o (exec T.P (dec T.P o ts) s) s fun d s' => dDraw T R ops bef K (i + 1) ((i, o, fp) :: acc) rest (putD ts o.dst d) s'
        else dDraw T R ops bef K (i + 1) ((i, o, fp) :: acc) rest (putD ts o.dst undefD) s
      else Bad (i, o)

def Xt.code : Xt → Option Code
  | .normal => none
  | .exit id => some (.exit id)
  | .goto l => some (.goto l)
  | .ret => some .ret

/-- the orders of a region are those that its edges leave, and all its operations come -/
def drawOk (P : Program) (ops : Array Oper) : Bool :=
  (P.follows .mixedOrders || !Region.departs ops) &&
  ops.toList.zipIdx.all fun (o, i) => o.after.toList.all fun e => !Region.binds .any e || e.on < i

/-- no range over a function -/
def noRF : Code → Bool
  | .rangeFunc .. => false
  | .seq a b => noRF a && noRF b
  | .cond _ a b => noRF a && noRF b
  | .block _ c | .loop c | .scope c => noRF c
  | _ => true

def dCode (T : Par) (R : RT) (md : Md) : Code → List D → St → (Xt → List D → St → Prop) → Prop
  | .skip, ts, s, K => K .normal ts s
  | .region _ ops draw, ts, s, K =>
    if draw then (if drawOk T.P ops then dDraw T R ops (Region.before ops) (K .normal) 0 [] ops.toList ts s else Bad ops)
    else dList T R md.det ops (K .normal) ops.toList ts s
  | .seq a b, ts, s, K => dCode T R md a ts s fun x ts s => match x with
    | .normal => dCode T R md b ts s K
    | x => K x ts s
  | .cond c a b, ts, s, K => match ev ts c with
    | .pv (.bool t) => if t then dCode T R md a ts s K else dCode T R md b ts s K
    | _ => Bad c
  | .block id c, ts, s, K => dCode T R md c ts s fun x ts s => match x with
    | .exit id' => if id' = id then K .normal ts s else K (.exit id') ts s
    | x => K x ts s
  | .loop c, ts, s, K => R (.loop md c ts s) fun r => K r.x r.ts r.s
  | .rangeFunc f params assign body, ts, s, K =>
    let l := s.obs.length
    let s1 := s.add (.loop .ready none ts params.toList assign body)
    match ev ts f with
    | .pv (.func g) => R (.call md.det g [.yield l] s1) fun r => dEnd l ts r.s K
    | .func g first cap => R (.call md.det g (first ++ [.yield l] ++ cap) s1) fun r => dEnd l ts r.s K
    | _ => Bad f
  | .exit id, ts, s, K => K (.exit id) ts s
  | .scope c, ts, s, K => R (.scope md c c ts s) fun r => K r.x r.ts r.s
  | .label _, ts, s, K => K .normal ts s
  | .goto l, ts, s, K => K (.goto l) ts s
  | .ret, ts, s, K => K .ret ts s
  | .refuse _, _, _, _ => False
  where
  dEnd (l : Nat) (ts : List D) (s : St) (K : Xt → List D → St → Prop) : Prop :=
    match s.obs[l]? with
    | some (.loop st pending _ _ _ _) =>
      if st = .busy then False
      else K (match pending with | some x => x | none => .normal) ts (s.set l .dead)
    | _ => False

def resultsD (P : Program) (s : St) (ts : List D) : List ResultVar → Option (List D)
  | [] => some []
  | .tmp t :: r => match resultsD P s ts r with
    | some l => some (ts.getD t undefD :: l)
    | none => none
  | .cell a t :: r => match ts.getD a undefD with
    | .ptr id off => match (if okT P t then exec P (.load id off (P.cellsOf t) (isAggT P t)) s else .fail) with
      | .val d _ => match resultsD P s ts r with
        | some l => some (d :: l)
        | none => none
      | _ => none
    | _ => none

def mkRes : List D → D
  | [d] => d
  | ds => .tup ds

/-- a call's own result -/
def leaveD (P : Program) (fn : Func) (ts : List D) (s : St) (Q : Res → Prop) : Prop :=
  match resultsD P s ts fn.results.toList with
  | some l => Q ⟨.ret, [mkRes l], s⟩
  | none => Bad fn.name

/-- one step of what a call, a round, a loop comes to -/
def step (T : Par) (R : RT) (c : Cl) (Q : Res → Prop) : Prop :=
  match c with
  | .call det f args s => match T.P.funcs[f]? with
    | some fn => match fn.body with
      | some body => dCode T R ⟨det, s.obs.length, s.bufs.length⟩ body (args ++ List.replicate (fn.ntmps - args.length) undefD) s fun x ts s => match x with
        | .normal | .ret => leaveD T.P fn ts s Q
        | _ => Bad fn.name
      | none => Bad fn.name
    | none => Bad f
  | .loop md body ts s => dCode T R md body ts s fun x ts s => match x with
    | .normal => R (.loop md body ts s) Q
    | x => Q ⟨x, ts, s⟩
  | .scope md body rest ts s => dCode T R md rest ts s fun x ts s => match x with
    | .goto l => match findLabel body l with
      | some rest => R (.scope md body rest ts s) Q
      | none => Q ⟨.goto l, ts, s⟩
    | x => Q ⟨x, ts, s⟩
  | .round det l args s => match s.obs[l]? with
    | some (.loop .ready pending ts params assign body) =>
      if args.length = params.length ∧ noRF assign = true ∧ noRF body = true then
        dCode T R ⟨det, s.obs.length, s.bufs.length⟩ assign ((params.zip args).foldl (fun ts p => ts.set p.1 p.2) ts) s fun x ts1 s1 => match x with
          | .normal => match s1.obs[l]? with
            | some (.loop .ready pending' ts' params' assign' body') =>
              dCode T R ⟨det, s.obs.length, s.bufs.length⟩ body ts1 (s1.set l (.loop .busy pending' ts' params' assign' body')) fun x _ s2 => match s2.obs[l]? with
                | some (.loop _ _ ts params assign body) =>
                  match x with
                  | .normal => Q ⟨.ret, [.pv (.bool true)], s2.set l (.loop .ready none ts params assign body)⟩
                  | x => Q ⟨.ret, [.pv (.bool false)], s2.set l (.loop .done (some x) ts params assign body)⟩
                | _ => False
            | _ => False
          | _ => False
      else False
    | _ => False

/-- the run with so many steps: for the kernel -/
def run (T : Par) : Nat → RT
  | 0 => fun c _ => Bad c
  | n + 1 => step T (run T n)

end Go.DI

/-
  How data stand for values in memory: what is constant (M), the blocks of the store's objects (ρ), the blocks of growing slices (β).
-/
namespace Go.DI
open Go

abbrev Mem := Nat → Nat → Option Value

inductive RepT (M : Mem) : Value → Dt → Prop
  | int {k : IntKind} {n : Int} : RepT M (.int k n) (.int k n)
  | bool {b : Bool} : RepT M (.bool b) (.bool b)
  | str {s : ByteArray} {l : List UInt8} (h : s.data.toList = l) : RepT M (.string s) (.str l)
  | nil {sz : Nat} : RepT M (.slice none 0 0) (.slc sz true [])
  | slc {a : Addr} {b o len cap sz : Nat} {es : List Dt} (val : Nat → Nat → Value) (ha : 0 < es.length → a = ⟨b, o, none⟩) (hl : len = es.length) (hc : len ≤ cap)
      (hsz : ∀ (i : Nat) (e : Dt), es[i]? = some e → e.cells.length = sz ∧ ∀ c ∈ e.cells, c.one = true)
      (hm : ∀ i j, i < es.length → j < sz → M b (o + (i * sz + j)) = some (val i j))
      (hr : ∀ (i j : Nat) (e c : Dt), es[i]? = some e → e.cells[j]? = some c → RepT M (val i j) c) :
      RepT M (.slice (some a) len cap) (.slc sz false es)
  | agg {vs : Array Value} {cs : List Dt} (hs : vs.size = cs.length)
      (h : ∀ (i : Nat) (v : Value) (c : Dt), vs[i]? = some v → cs[i]? = some c → RepT M v c) : RepT M (.agg vs) (.agg cs)
  | tup {vs : Array Value} {cs : List Dt} (hs : vs.size = cs.length)
      (h : ∀ (i : Nat) (v : Value) (c : Dt), vs[i]? = some v → cs[i]? = some c → RepT M v c) : RepT M (.tuple vs) (.tup cs)
  | nilptr : RepT M (.pointer none) .nilptr
  | niliface : RepT M .nilIface .niliface
  | nilfunc : RepT M .nilFunc .nilfunc
  | nilmap : RepT M (.map none) .nilmap
  | func {f : FuncId} : RepT M (.func (.func f) #[] #[]) (.func f)

theorem RepT.mono {M M' : Mem} (h : ∀ b o v, M b o = some v → M' b o = some v) {v : Value} {x : Dt} (r : RepT M v x) : RepT M' v x := by
  induction r with
  | int => exact .int
  | bool => exact .bool
  | str h => exact .str h
  | nil => exact .nil
  | slc val ha hl hc hsz hm _ ih => exact .slc val ha hl hc hsz (fun i j hi hj => h _ _ _ (hm i j hi hj)) ih
  | agg hs _ ih => exact .agg hs ih
  | tup hs _ ih => exact .tup hs ih
  | nilptr => exact .nilptr
  | niliface => exact .niliface
  | nilfunc => exact .nilfunc
  | nilmap => exact .nilmap
  | func => exact .func

structure Cx where
  M : Mem
  ρ : List Nat
  /-- block, room, how many are filled -/
  β : List (Nat × Nat × Nat)

inductive Rep (Γ : Cx) : Value → D → Prop
  | pv {v : Value} {x : Dt} (h : RepT Γ.M v x) : Rep Γ v (.pv x)
  | ptr {b id off : Nat} (h : Γ.ρ[id]? = some b) : Rep Γ (.pointer (some ⟨b, off, none⟩)) (.ptr id off)
  | cptr {b o sz i off : Nat} {es : List Dt} {e : Dt} (val : Nat → Value) (he : es[i]? = some e)
      (hm : ∀ j, j < e.cells.length → Γ.M b (o + j) = some (val j))
      (hr : ∀ (j : Nat) (c : Dt), e.cells[j]? = some c → RepT Γ.M (val j) c ∧ c.one = true) : Rep Γ (.pointer (some ⟨b, o + off, none⟩)) (.cptr sz es i off)
  | own {v : Value} {id sz b cap fill : Nat} {es : List Dt} (h : RepT Γ.M v (.slc sz false es)) (hb : Γ.β[id]? = some (b, cap, fill))
      (hf : es.length ≤ fill) (hv : es.length = fill → v = .slice (some ⟨b, 0, none⟩) es.length cap) : Rep Γ v (.own id sz es)
  | exa {a : Option Addr} {len sz : Nat} {nl : Bool} {es : List Dt} (h : RepT Γ.M (.slice a len len) (.slc sz nl es)) : Rep Γ (.slice a len len) (.exa sz nl es)
  | msl {a : Addr} {id off n sz cap : Nat} (hsp : a.spot = none) (hc : n ≤ cap) (h : 0 < n → Γ.ρ[id]? = some a.block ∧ a.off = off ∧ a.spot = none) :
      Rep Γ (.slice (some a) n cap) (.msl id off n sz)
  | agg {vs : Array Value} {cs : List D} (hs : vs.size = cs.length)
      (h : ∀ (i : Nat) (v : Value) (c : D), vs[i]? = some v → cs[i]? = some c → Rep Γ v c) : Rep Γ (.agg vs) (.agg cs)
  | tup {vs : Array Value} {cs : List D} (hs : vs.size = cs.length)
      (h : ∀ (i : Nat) (v : Value) (c : D), vs[i]? = some v → cs[i]? = some c → Rep Γ v c) : Rep Γ (.tuple vs) (.tup cs)
  | func {f : FuncId} {vs us : Array Value} {fs cs : List D} (h1 : vs.size = fs.length) (h2 : us.size = cs.length)
      (h3 : ∀ (i : Nat) (v : Value) (c : D), vs[i]? = some v → fs[i]? = some c → Rep Γ v c)
      (h4 : ∀ (i : Nat) (v : Value) (c : D), us[i]? = some v → cs[i]? = some c → Rep Γ v c) : Rep Γ (.func (.func f) vs us) (.func f fs cs)
  | yield {b l : Nat} (h : Γ.ρ[l]? = some b) : Rep Γ (.func (.yield b) #[] #[]) (.yield l)
  | map {b id : Nat} (h : Γ.ρ[id]? = some b) : Rep Γ (.map (some b)) (.map id)
  | iter {b id : Nat} (h : Γ.ρ[id]? = some b) : Rep Γ (.pointer (some ⟨b, 0, none⟩)) (.iter id)
  | iface {v : Value} {d : D} {t : TypeId} (h : Rep Γ v d) : Rep Γ (.iface t v) (.iface t d)
  | junk {v : Value} : Rep Γ v .junk

def RepL {δ : Type} (R : Value → δ → Prop) (vs : List Value) (ds : List δ) : Prop :=
  vs.length = ds.length ∧ ∀ (i : Nat) (v : Value) (d : δ), vs[i]? = some v → ds[i]? = some d → R v d

/-! ### objects -/

def jumpOf : Option Xt → Option Code
  | none => none
  | some x => x.code

def ORep (Γ : Cx) (w : World) (b : Nat) : Ob → Prop
  | .dead => True
  | .cells cs t => ∃ arr, w.heap[b]? = some (.cells arr t (0, 0)) ∧ RepL (Rep Γ) arr.toList cs ∧ ∀ c ∈ cs, c.one = true ∨ c = .junk
  | .map es clock => ∃ arr, w.heap[b]? = some (.map arr clock) ∧ arr.size = es.length ∧
      ∀ (i : Nat) (e : MapEntry) (d : Ent), arr[i]? = some e → es[i]? = some d → RepT Γ.M e.key d.key ∧ Rep Γ e.val d.val ∧ e.born = d.born
  | .mapIter m since seen stepped => ∃ m', w.heap[b]? = some (.mapIter m' since seen.toArray stepped) ∧
      match m with
      | none => m' = none
      | some id => ∃ c, Γ.ρ[id]? = some c ∧ m' = some c
  | .strIter s pos => ∃ str : ByteArray, w.heap[b]? = some (.stringIter str pos) ∧ str.data.toList = s
  | .loop st pending ts params assign body => ∃ L : Loop, w.heap[b]? = some (.loop L) ∧ L.state = st ∧ L.pending = jumpOf pending ∧
      RepL (Rep Γ) L.tmps.toList ts ∧ L.params.toList = params ∧ L.assign = assign ∧ L.body = body

structure Sat (Γ : Cx) (w : World) (s : St) : Prop where
  len : Γ.ρ.length = s.obs.length
  blen : Γ.β.length = s.bufs.length
  nodup : (Γ.ρ ++ Γ.β.map (·.1)).Nodup
  lt : ∀ b ∈ Γ.ρ ++ Γ.β.map (·.1), b < w.heap.size
  mem : ∀ b o v, Γ.M b o = some v → w.cell? ⟨b, o, none⟩ = some v
  apart : ∀ b ∈ Γ.ρ, ∀ o, Γ.M b o = none
  obs : ∀ (i : Nat) (ob : Ob) (b : Nat), s.obs[i]? = some ob → Γ.ρ[i]? = some b → ORep Γ w b ob
  bufs : ∀ (k : Nat) (bf : Buf) (b cap fill : Nat), s.bufs[k]? = some bf → Γ.β[k]? = some (b, cap, fill) →
    fill = bf.fill ∧ fill ≤ cap ∧ 0 < bf.sz ∧ ∃ arr fz t0, w.heap[b]? = some (.cells arr t0 fz) ∧ arr.size = cap * bf.sz ∧
      (∀ o, o < arr.size → ¬(fz.1 ≤ o ∧ o < fz.2)) ∧ ∀ o, fill * bf.sz ≤ o → Γ.M b o = none

/-- the world goes on from w to w', what is known from Γ to Γ' -/
structure Fwd (Γ : Cx) (w : World) (Γ' : Cx) (w' : World) : Prop where
  os : w'.os = w.os
  tape : w'.tape = w.tape
  output : w'.output = w.output
  size : w.heap.size ≤ w'.heap.size
  blk : ∀ b, b < w.heap.size → b ∉ Γ.ρ ++ Γ.β.map (·.1) → w'.heap[b]? = w.heap[b]?
  M : ∀ b o v, Γ.M b o = some v → Γ'.M b o = some v
  Mnew : ∀ b o, Γ'.M b o ≠ Γ.M b o → w.heap.size ≤ b ∨ b ∈ Γ.β.map (·.1)
  ρ : ∀ (i b : Nat), Γ.ρ[i]? = some b → Γ'.ρ[i]? = some b
  ρnew : ∀ b, b ∈ Γ'.ρ → b ∈ Γ.ρ ∨ w.heap.size ≤ b
  β : ∀ (k b c f : Nat), Γ.β[k]? = some (b, c, f) → ∃ b' c' f' : Nat, Γ'.β[k]? = some (b', c', f') ∧ f ≤ f' ∧ (f = f' → b' = b ∧ c' = c)
  βnew : ∀ b, b ∈ Γ'.β.map (·.1) → b ∈ Γ.β.map (·.1) ∨ w.heap.size ≤ b

theorem Fwd.refl (Γ : Cx) (w : World) : Fwd Γ w Γ w where
  os := rfl
  tape := rfl
  output := rfl
  size := Nat.le_refl _
  blk := fun _ _ _ => rfl
  M := fun _ _ _ h => h
  Mnew := fun _ _ h => (h rfl).elim
  ρ := fun _ _ h => h
  ρnew := fun _ h => .inl h
  β := fun _ b c f h => ⟨b, c, f, h, Nat.le_refl _, fun _ => ⟨rfl, rfl⟩⟩
  βnew := fun _ h => .inl h

theorem Fwd.trans {Γ Γ1 Γ2 : Cx} {w w1 w2 : World} (h : Fwd Γ w Γ1 w1) (k : Fwd Γ1 w1 Γ2 w2) : Fwd Γ w Γ2 w2 where
  os := k.os.trans h.os
  tape := k.tape.trans h.tape
  output := k.output.trans h.output
  size := Nat.le_trans h.size k.size
  blk := fun b hb hn => by
    refine (k.blk b (Nat.lt_of_lt_of_le hb h.size) ?_).trans (h.blk b hb hn)
    intro hm
    rcases List.mem_append.1 hm with hm | hm
    · rcases h.ρnew b hm with hm | hm
      · exact hn (List.mem_append.2 (.inl hm))
      · omega
    · rcases h.βnew b hm with hm | hm
      · exact hn (List.mem_append.2 (.inr hm))
      · omega
  M := fun b o v hv => k.M b o v (h.M b o v hv)
  Mnew := fun b o hne => by
    by_cases e : Γ1.M b o = Γ.M b o
    · rw [← e] at hne
      rcases k.Mnew b o hne with hh | hh
      · exact .inl (Nat.le_trans h.size hh)
      · rcases h.βnew b hh with hh | hh
        · exact .inr hh
        · exact .inl hh
    · exact h.Mnew b o e
  ρ := fun i b hb => k.ρ i b (h.ρ i b hb)
  ρnew := fun b hb => by
    rcases k.ρnew b hb with hh | hh
    · exact h.ρnew b hh
    · exact .inr (Nat.le_trans h.size hh)
  β := fun i b c f hb => by
    obtain ⟨b1, c1, f1, h1, hle1, he1⟩ := h.β i b c f hb
    obtain ⟨b2, c2, f2, h2, hle2, he2⟩ := k.β i b1 c1 f1 h1
    refine ⟨b2, c2, f2, h2, Nat.le_trans hle1 hle2, fun e => ?_⟩
    obtain ⟨a1, a2⟩ := he1 (by omega)
    obtain ⟨a3, a4⟩ := he2 (by omega)
    exact ⟨a3.trans a1, a4.trans a2⟩
  βnew := fun b hb => by
    rcases k.βnew b hb with hh | hh
    · exact h.βnew b hh
    · exact .inr (Nat.le_trans h.size hh)

theorem Rep.mono {Γ Γ' : Cx} (hM : ∀ b o v, Γ.M b o = some v → Γ'.M b o = some v) (hρ : ∀ (i b : Nat), Γ.ρ[i]? = some b → Γ'.ρ[i]? = some b)
    (hβ : ∀ (k b c f : Nat), Γ.β[k]? = some (b, c, f) → ∃ b' c' f' : Nat, Γ'.β[k]? = some (b', c', f') ∧ f ≤ f' ∧ (f = f' → b' = b ∧ c' = c))
    {v : Value} {d : D} (r : Rep Γ v d) : Rep Γ' v d := by
  induction r with
  | pv h => exact .pv (h.mono hM)
  | ptr h => exact .ptr (hρ _ _ h)
  | cptr val he hm hr => exact .cptr val he (fun j hj => hM _ _ _ (hm j hj)) (fun j c hc => ⟨((hr j c hc).1).mono hM, (hr j c hc).2⟩)
  | own h hb hf hv =>
    obtain ⟨b', c', f', h1, h2, h3⟩ := hβ _ _ _ _ hb
    refine .own (h.mono hM) h1 (Nat.le_trans hf h2) (fun e => ?_)
    obtain ⟨a1, a2⟩ := h3 (by omega)
    rw [a1, a2]
    exact hv (by omega)
  | exa h => exact .exa (h.mono hM)
  | msl hsp hc h => exact .msl hsp hc (fun hn => ⟨hρ _ _ (h hn).1, (h hn).2⟩)
  | agg hs _ ih => exact .agg hs ih
  | tup hs _ ih => exact .tup hs ih
  | func h1 h2 _ _ ih3 ih4 => exact .func h1 h2 ih3 ih4
  | yield h => exact .yield (hρ _ _ h)
  | map h => exact .map (hρ _ _ h)
  | iter h => exact .iter (hρ _ _ h)
  | iface _ ih => exact .iface ih
  | junk => exact .junk

theorem Fwd.rep {Γ Γ' : Cx} {w w' : World} (h : Fwd Γ w Γ' w') {v : Value} {d : D} (r : Rep Γ v d) : Rep Γ' v d := r.mono h.M h.ρ h.β

theorem RepL.mono {δ : Type} {R R' : Value → δ → Prop} (h : ∀ v d, R v d → R' v d) {vs : List Value} {ds : List δ} (r : RepL R vs ds) : RepL R' vs ds :=
  ⟨r.1, fun i v d hv hd => h v d (r.2 i v d hv hd)⟩

theorem Fwd.repL {Γ Γ' : Cx} {w w' : World} (h : Fwd Γ w Γ' w') {vs : List Value} {ds : List D} (r : RepL (Rep Γ) vs ds) : RepL (Rep Γ') vs ds :=
  r.mono fun _ _ => h.rep

theorem RepL.nil {δ : Type} {R : Value → δ → Prop} : RepL R [] [] := ⟨rfl, fun i v d h => by simp at h⟩
theorem RepL.cons {δ : Type} {R : Value → δ → Prop} {v : Value} {d : δ} {vs : List Value} {ds : List δ} (h : R v d) (r : RepL R vs ds) : RepL R (v :: vs) (d :: ds) := by
  refine ⟨by simp [r.1], fun i v' d' hv hd => ?_⟩
  cases i with
  | zero => simp at hv hd; subst hv; subst hd; exact h
  | succ i => simp at hv hd; exact r.2 i v' d' hv hd
theorem RepL.head {δ : Type} {R : Value → δ → Prop} {v : Value} {d : δ} {vs : List Value} {ds : List δ} (r : RepL R (v :: vs) (d :: ds)) : R v d := r.2 0 v d rfl rfl
theorem RepL.tail {δ : Type} {R : Value → δ → Prop} {v : Value} {d : δ} {vs : List Value} {ds : List δ} (r : RepL R (v :: vs) (d :: ds)) : RepL R vs ds :=
  ⟨by have := r.1; simpa using this, fun i v' d' hv hd => r.2 (i + 1) v' d' (by simpa using hv) (by simpa using hd)⟩
theorem RepL.nil_right {δ : Type} {R : Value → δ → Prop} {vs : List Value} (r : RepL R vs ([] : List δ)) : vs = [] := List.eq_nil_of_length_eq_zero (by simpa using r.1)
theorem RepL.cons_right {δ : Type} {R : Value → δ → Prop} {vs : List Value} {d : δ} {ds : List δ} (r : RepL R vs (d :: ds)) : ∃ v vs', vs = v :: vs' ∧ R v d ∧ RepL R vs' ds := by
  cases vs with
  | nil => have := r.1; simp at this
  | cons v vs => exact ⟨v, vs, rfl, r.head, r.tail⟩
theorem RepL.get {δ : Type} {R : Value → δ → Prop} {vs : List Value} {ds : List δ} (r : RepL R vs ds) {i : Nat} {d : δ} (h : ds[i]? = some d) : ∃ v, vs[i]? = some v ∧ R v d := by
  obtain ⟨hi, _⟩ := List.getElem?_eq_some_iff.1 h
  have hi' : i < vs.length := by rw [r.1]; exact hi
  exact ⟨vs[i], List.getElem?_eq_getElem hi', r.2 i _ d (List.getElem?_eq_getElem hi') h⟩
theorem RepL.append {δ : Type} {R : Value → δ → Prop} {vs us : List Value} {ds cs : List δ} (r : RepL R vs ds) (q : RepL R us cs) : RepL R (vs ++ us) (ds ++ cs) := by
  refine ⟨by simp [r.1, q.1], fun i v d hv hd => ?_⟩
  by_cases h : i < vs.length
  · rw [List.getElem?_append_left h] at hv
    rw [List.getElem?_append_left (by rw [← r.1]; exact h)] at hd
    exact r.2 i v d hv hd
  · rw [List.getElem?_append_right (by omega)] at hv
    rw [List.getElem?_append_right (by rw [← r.1]; omega), ← r.1] at hd
    exact q.2 _ v d hv hd
theorem RepL.drop {δ : Type} {R : Value → δ → Prop} {vs : List Value} {ds : List δ} (r : RepL R vs ds) (n : Nat) : RepL R (vs.drop n) (ds.drop n) :=
  ⟨by simp [r.1], fun i v d hv hd => r.2 (n + i) v d (by simpa using hv) (by simpa using hd)⟩
theorem RepL.take {δ : Type} {R : Value → δ → Prop} {vs : List Value} {ds : List δ} (r : RepL R vs ds) (n : Nat) : RepL R (vs.take n) (ds.take n) := by
  refine ⟨by simp [r.1], fun i v d hv hd => ?_⟩
  rw [List.getElem?_take] at hv hd
  split at hv
  · exact r.2 i v d hv (by simpa [*] using hd)
  · simp at hv
theorem RepL.set {δ : Type} {R : Value → δ → Prop} {vs : List Value} {ds : List δ} (r : RepL R vs ds) {v : Value} {d : δ} (h : R v d) (i : Nat) : RepL R (vs.set i v) (ds.set i d) := by
  refine ⟨by simp [r.1], fun j v' d' hv hd => ?_⟩
  rw [List.getElem?_set] at hv hd
  by_cases e : i = j
  · subst e
    simp only [if_true] at hv hd
    split at hv
    · split at hd
      · simp at hv hd; subst hv; subst hd; exact h
      · simp at hd
    · simp at hv
  · simp only [e, if_false] at hv hd
    exact r.2 j v' d' hv hd
theorem RepL.map_right {δ ε : Type} {R : Value → δ → Prop} {R' : Value → ε → Prop} {f : δ → ε} (h : ∀ v d, R v d → R' v (f d)) {vs : List Value} {ds : List δ} (r : RepL R vs ds) : RepL R' vs (ds.map f) := by
  refine ⟨by simp [r.1], fun i v d hv hd => ?_⟩
  rw [List.getElem?_map] at hd
  cases hx : ds[i]? with
  | none => simp [hx] at hd
  | some x => simp [hx] at hd; subst hd; exact h v x (r.2 i v x hv hx)
theorem RepL.omap {δ ε : Type} {R : Value → δ → Prop} {R' : Value → ε → Prop} {f : δ → Option ε} (h : ∀ v d e, R v d → f d = some e → R' v e) :
    ∀ {ds : List δ} {es : List ε} {vs : List Value}, RepL R vs ds → omap f ds = some es → RepL R' vs es
  | [], es, vs, r, ho => by
    simp [DI.omap] at ho; subst ho; rw [r.nil_right]; exact .nil
  | d :: ds, es, vs, r, ho => by
    obtain ⟨v, vs, rfl, hv, r⟩ := r.cons_right
    simp only [DI.omap] at ho
    cases hf : f d with
    | none => simp [hf] at ho
    | some e =>
      simp only [hf] at ho
      cases hg : DI.omap f ds with
      | none => simp [hg] at ho
      | some r' =>
        simp only [hg, Option.some.injEq] at ho
        subst ho
        exact .cons (h v d e hv hf) (RepL.omap h r hg)

end Go.DI

/-
  Each operation on data does what the machine does: operations that leave the store alone.
-/
namespace Go.DI
open Go

def OpGives (P : Program) (a : Act) (o : Oper) (w : World) (v : Value) (w' : World) : Prop :=
  (execOp a.eval o).run P w = .ok (.value v) w' ∨ ((execOp a.eval o).run P w = .ok .skip w' ∧ v = undef)

abbrev RepA (Γ : Cx) (a : Act) (ts : List D) : Prop := RepL (Rep Γ) a.tmps.toList ts

section basics
variable {P : Program} {w : World}

theorem run_und {t : TypeId} {d : TypeDesc} (h : P.underlying t = some d) : (underlying t).run P w = .ok d w := run_underlying h w

theorem info_of_okT {t : TypeId} (h : okT P t = true) : ∃ i, P.info? t = some i := by
  unfold okT Program.underlying at h
  cases hi : P.info? t with
  | none => simp [hi] at h
  | some i => exact ⟨i, rfl⟩

theorem und_of_okT {t : TypeId} (h : okT P t = true) : ∃ d, P.underlying t = some d := Option.isSome_iff_exists.1 h

theorem okT_of_und {t : TypeId} {d : TypeDesc} (h : P.underlying t = some d) : okT P t = true := by simp [okT, h]

theorem okT_of_cells {t : TypeId} (h : 0 < P.cellsOf t) : ∃ i, P.info? t = some i := by
  unfold Program.cellsOf at h
  cases hi : P.info? t with
  | none => simp [hi] at h
  | some i => exact ⟨i, rfl⟩

theorem run_size {t : TypeId} (h : okT P t = true) : (sizeOf t).run P w = .ok (P.cellsOf t) w := by
  obtain ⟨i, hi⟩ := info_of_okT h
  simp [sizeOf, typeInfo, hi, Program.cellsOf]

theorem run_size' {t : TypeId} (h : 0 < P.cellsOf t) : (sizeOf t).run P w = .ok (P.cellsOf t) w := by
  obtain ⟨i, hi⟩ := okT_of_cells h
  simp [sizeOf, typeInfo, hi, Program.cellsOf]

theorem run_agg {t : TypeId} (h : okT P t = true) : (isAgg t).run P w = .ok (isAggT P t) w := by
  obtain ⟨d, hd⟩ := und_of_okT h
  simp only [isAgg, Sem.run_bind, run_und hd, Result.andThen_ok, isAggT, hd]
  cases d <;> rfl

theorem run_zero {t : TypeId} {i : TypeInfo} {v : Value} (hi : P.info? t = some i) (hz : i.zero = some v) : (zeroValue t).run P w = .ok v w := by
  simp [zeroValue, typeInfo, hi, hz]
end basics

theorem constDt_rep {M : Mem} {v : Value} {x : Dt} (h : constDt v = some x) : RepT M v x := by
  unfold constDt at h
  split at h <;> try (simp at h; done)
  · injection h with h; subst h; exact .int
  · injection h with h; subst h; exact .bool
  · injection h with h; subst h; exact .str rfl
  · injection h with h; subst h; exact .nilptr
  · injection h with h; subst h; exact .nil
  · injection h with h; subst h; exact .nilmap
  · injection h with h; subst h; exact .nilfunc
  · injection h with h; subst h; exact .niliface
  · split at h
    · rename_i vs hs
      injection h with h; subst h
      have : vs = #[] := by simpa using hs
      subst this
      exact .tup rfl (fun i v c hv => by simp at hv)
    · simp at h
  · split at h
    · rename_i f first cap hs
      injection h with h; subst h
      obtain ⟨h1, h2⟩ := hs
      have e1 : first = #[] := by simpa using h1
      have e2 : cap = #[] := by simpa using h2
      subst e1; subst e2
      exact .func
    · simp at h

theorem omap_length {α β : Type} {f : α → Option β} : ∀ {l : List α} {r : List β}, omap f l = some r → r.length = l.length
  | [], r, h => by simp [omap] at h; subst h; rfl
  | a :: l, r, h => by
    simp only [omap] at h
    cases hf : f a with
    | none => simp [hf] at h
    | some b =>
      simp only [hf] at h
      cases hg : omap f l with
      | none => simp [hg] at h
      | some r' => simp only [hg, Option.some.injEq] at h; subst h; simp [omap_length hg]

theorem omap_get {α β : Type} {f : α → Option β} : ∀ {l : List α} {r : List β}, omap f l = some r → ∀ (i : Nat) (a : α) (b : β), l[i]? = some a → r[i]? = some b → f a = some b
  | [], r, h, i, a, b, ha, _ => by simp at ha
  | a :: l, r, h, i, a', b, ha, hb => by
    simp only [omap] at h
    cases hf : f a with
    | none => simp [hf] at h
    | some c =>
      simp only [hf] at h
      cases hg : omap f l with
      | none => simp [hg] at h
      | some r' =>
        simp only [hg, Option.some.injEq] at h
        subst h
        cases i with
        | zero => simp at ha hb; subst ha; subst hb; exact hf
        | succ i => simp at ha hb; exact omap_get hg i a' b ha hb

theorem constD_rep {Γ : Cx} (v : Value) : Rep Γ v (constD v) := by
  unfold constD
  split
  · split
    · rename_i cs l ho
      refine .pv (.agg (by have := omap_length ho; simpa using this.symm) fun i v c hv hc => ?_)
      exact constDt_rep (omap_get ho i v c (by simpa using hv) hc)
    · exact .junk
  · split
    · rename_i x hx; exact .pv (constDt_rep hx)
    · exact .junk

theorem undef_rep {Γ : Cx} : Rep Γ undef undefD := .pv (.tup rfl (fun i v c hv => by simp at hv))

theorem ev_rep {Γ : Cx} {a : Act} {ts : List D} (h : RepA Γ a ts) (x : Operand) : Rep Γ (a.eval x) (ev ts x) := by
  cases x with
  | tmp t =>
    show Rep Γ (a.tmps.getD t undef) (ts.getD t undefD)
    by_cases ht : t < ts.length
    · have hd : ts[t]? = some ts[t] := List.getElem?_eq_getElem ht
      obtain ⟨v, hv, hr⟩ := h.get hd
      have e1 : a.tmps.getD t undef = v := by
        rw [Array.getD_eq_getD_getElem?]; simp at hv; simp [hv]
      have e2 : ts.getD t undefD = ts[t] := by rw [List.getD_eq_getElem?_getD, hd]; rfl
      rw [e1, e2]; exact hr
    · have hl : a.tmps.size = ts.length := by have := h.1; simpa using this
      have e1 : a.tmps.getD t undef = undef := by
        rw [Array.getD_eq_getD_getElem?, Array.getElem?_eq_none (by rw [hl]; exact Nat.le_of_not_lt ht)]; rfl
      have e2 : ts.getD t undefD = undefD := by rw [List.getD_eq_getElem?_getD, List.getElem?_eq_none (Nat.le_of_not_lt ht)]; rfl
      rw [e1, e2]; exact undef_rep
  | const v => exact constD_rep v
  | global g => exact .junk
  | func f => exact .pv .func

/-! ### taking apart -/

theorem Rep.pv_inv {Γ : Cx} {v : Value} {x : Dt} (h : Rep Γ v (.pv x)) : RepT Γ.M v x := by cases h; assumption
theorem RepT.int_inv {M : Mem} {v : Value} {k : IntKind} {n : Int} (h : RepT M v (.int k n)) : v = .int k n := by cases h; rfl
theorem RepT.bool_inv {M : Mem} {v : Value} {b : Bool} (h : RepT M v (.bool b)) : v = .bool b := by cases h; rfl
theorem RepT.str_inv {M : Mem} {v : Value} {l : List UInt8} (h : RepT M v (.str l)) : ∃ s : ByteArray, v = .string s ∧ s.data.toList = l := by cases h; exact ⟨_, rfl, by assumption⟩
theorem RepT.agg_inv {M : Mem} {v : Value} {cs : List Dt} (h : RepT M v (.agg cs)) : ∃ vs : Array Value, v = .agg vs ∧ RepL (RepT M) vs.toList cs := by
  cases h with
  | agg hs h => exact ⟨_, rfl, by simpa using hs, fun i v c hv hc => h i v c (by simpa using hv) hc⟩
theorem RepT.tup_inv {M : Mem} {v : Value} {cs : List Dt} (h : RepT M v (.tup cs)) : ∃ vs : Array Value, v = .tuple vs ∧ RepL (RepT M) vs.toList cs := by
  cases h with
  | tup hs h => exact ⟨_, rfl, by simpa using hs, fun i v c hv hc => h i v c (by simpa using hv) hc⟩
theorem Rep.agg_inv {Γ : Cx} {v : Value} {cs : List D} (h : Rep Γ v (.agg cs)) : ∃ vs : Array Value, v = .agg vs ∧ RepL (Rep Γ) vs.toList cs := by
  cases h with
  | agg hs h => exact ⟨_, rfl, by simpa using hs, fun i v c hv hc => h i v c (by simpa using hv) hc⟩
theorem Rep.tup_inv {Γ : Cx} {v : Value} {cs : List D} (h : Rep Γ v (.tup cs)) : ∃ vs : Array Value, v = .tuple vs ∧ RepL (Rep Γ) vs.toList cs := by
  cases h with
  | tup hs h => exact ⟨_, rfl, by simpa using hs, fun i v c hv hc => h i v c (by simpa using hv) hc⟩
theorem RepT.agg_of {M : Mem} {vs : Array Value} {cs : List Dt} (h : RepL (RepT M) vs.toList cs) : RepT M (.agg vs) (.agg cs) :=
  .agg (by have := h.1; simpa using this) fun i v c hv hc => h.2 i v c (by simpa using hv) hc
theorem RepT.tup_of {M : Mem} {vs : Array Value} {cs : List Dt} (h : RepL (RepT M) vs.toList cs) : RepT M (.tuple vs) (.tup cs) :=
  .tup (by have := h.1; simpa using this) fun i v c hv hc => h.2 i v c (by simpa using hv) hc
theorem Rep.agg_of {Γ : Cx} {vs : Array Value} {cs : List D} (h : RepL (Rep Γ) vs.toList cs) : Rep Γ (.agg vs) (.agg cs) :=
  .agg (by have := h.1; simpa using this) fun i v c hv hc => h.2 i v c (by simpa using hv) hc
theorem Rep.tup_of {Γ : Cx} {vs : Array Value} {cs : List D} (h : RepL (Rep Γ) vs.toList cs) : Rep Γ (.tuple vs) (.tup cs) :=
  .tup (by have := h.1; simpa using this) fun i v c hv hc => h.2 i v c (by simpa using hv) hc

/-- an aggregate of cells, whichever way it is told -/
theorem mkAgg_rep {Γ : Cx} {vs : Array Value} {cs : List D} (h : RepL (Rep Γ) vs.toList cs) : Rep Γ (.agg vs) (mkAgg cs) := by
  unfold mkAgg
  split
  · rename_i l ho
    refine .pv (RepT.agg_of (h.omap (f := D.pv?) (fun v d e hv he => ?_) ho))
    cases d <;> simp [D.pv?] at he
    subst he; exact hv.pv_inv
  · exact Rep.agg_of h

theorem oneCell_of_one {M : Mem} {v : Value} {x : Dt} (h : RepT M v x) (hx : x.one = true) : v.oneCell' = true ∧ v.cells = #[v] := by
  cases h <;> simp_all [Dt.one, Value.oneCell', Value.cells]

theorem oneCell_of_oneD {Γ : Cx} {v : Value} {d : D} (h : Rep Γ v d) (hd : d.one = true) : v.oneCell' = true ∧ v.cells = #[v] := by
  cases h with
  | pv h => exact oneCell_of_one h (by simpa [D.one] using hd)
  | own h hb hf hv => exact oneCell_of_one h rfl
  | exa h => exact oneCell_of_one h rfl
  | agg hs h => simp [D.one] at hd
  | tup hs h => simp [D.one] at hd
  | junk => simp [D.one] at hd
  | _ => exact ⟨rfl, rfl⟩

theorem D.cells_cases (d : D) : (∃ cs, d = .agg cs ∧ d.cells = cs) ∨ (∃ cs, d = .pv (.agg cs) ∧ d.cells = cs.map .pv) ∨ d.cells = [d] := by
  cases d with
  | agg cs => exact .inl ⟨cs, rfl, rfl⟩
  | pv x => cases x with
    | agg cs => exact .inr (.inl ⟨cs, rfl, rfl⟩)
    | _ => exact .inr (.inr rfl)
  | _ => exact .inr (.inr rfl)

theorem Dt.cells_cases (d : Dt) : (∃ cs, d = .agg cs ∧ d.cells = cs) ∨ d.cells = [d] := by
  cases d with
  | agg cs => exact .inl ⟨cs, rfl, rfl⟩
  | _ => exact .inr rfl

/-- the cells of a value -/
theorem cells_rep {Γ : Cx} {v : Value} {d : D} (h : Rep Γ v d) (h1 : d.cells.all D.one = true) : RepL (Rep Γ) v.cells.toList d.cells := by
  rcases d.cells_cases with ⟨cs, rfl, e⟩ | ⟨cs, rfl, e⟩ | e
  · obtain ⟨vs, rfl, hl⟩ := h.agg_inv
    exact hl
  · obtain ⟨vs, rfl, hl⟩ := h.pv_inv.agg_inv
    exact hl.map_right fun _ _ => .pv
  · rw [e] at h1 ⊢
    rw [(oneCell_of_oneD h (by simpa using h1)).2]
    exact .cons h .nil

theorem cells_repT {M : Mem} {v : Value} {x : Dt} (h : RepT M v x) (h1 : x.cells.all Dt.one = true) : RepL (RepT M) v.cells.toList x.cells := by
  rcases x.cells_cases with ⟨cs, rfl, e⟩ | e
  · obtain ⟨vs, rfl, hl⟩ := h.agg_inv
    exact hl
  · rw [e] at h1 ⊢
    rw [(oneCell_of_one h (by simpa using h1)).2]
    exact .cons h .nil

/-- as data, one cell -/
theorem cellDt_rep {Γ : Cx} {v : Value} {d : D} {x : Dt} (h : Rep Γ v d) (hx : d.cellDt = some x) : RepT Γ.M v x := by
  unfold D.cellDt at hx
  split at hx <;> try (simp at hx; done)
  · injection hx with hx; subst hx; exact h.pv_inv
  · injection hx with hx; subst hx; cases h; assumption
  · injection hx with hx; subst hx; cases h; assumption
  · injection hx with hx; subst hx
    cases h with
    | func h1 h2 _ _ =>
      have e1 := Array.eq_empty_of_size_eq_zero h1
      have e2 := Array.eq_empty_of_size_eq_zero h2
      subst e1; subst e2; exact .func

theorem aggDt_rep {Γ : Cx} {v : Value} {d : D} {x : Dt} (h : Rep Γ v d) (hx : d.aggDt = some x) : RepT Γ.M v x := by
  unfold D.aggDt at hx
  split at hx
  · rename_i cs
    obtain ⟨vs, rfl, hl⟩ := h.agg_inv
    cases ho : omap D.cellDt cs with
    | none => simp [ho] at hx
    | some l =>
      simp [ho] at hx; subst hx
      exact RepT.agg_of (hl.omap (R' := RepT Γ.M) (f := D.cellDt) (fun v d e => cellDt_rep) ho)
  · exact cellDt_rep h hx

theorem toDt_rep {Γ : Cx} {v : Value} {d : D} {x : Dt} (h : Rep Γ v d) (hx : d.toDt = some x) : RepT Γ.M v x := by
  unfold D.toDt at hx
  split at hx
  · rename_i cs
    obtain ⟨vs, rfl, hl⟩ := h.tup_inv
    cases ho : omap D.aggDt cs with
    | none => simp [ho] at hx
    | some l =>
      simp [ho] at hx; subst hx
      exact RepT.tup_of (hl.omap (R' := RepT Γ.M) (f := D.aggDt) (fun v d e => aggDt_rep) ho)
  · exact aggDt_rep h hx

theorem normD_rep {Γ : Cx} {v : Value} {d : D} (h : Rep Γ v d) : Rep Γ v (normD d) := by
  unfold normD
  split
  · exact .pv (toDt_rep h (by assumption))
  · exact h

/-- a list of elements -/
theorem listOf_rep {Γ : Cx} {v : Value} {d : D} {sz : Nat} {nl : Bool} {es : List Dt} (h : Rep Γ v d) (hl : listOf d = some (sz, nl, es)) : RepT Γ.M v (.slc sz nl es) := by
  unfold listOf at hl
  split at hl <;> try (simp at hl; done)
  · simp at hl; obtain ⟨rfl, rfl, rfl⟩ := hl; exact h.pv_inv
  · simp at hl; obtain ⟨rfl, rfl, rfl⟩ := hl; cases h; assumption
  · simp at hl; obtain ⟨rfl, rfl, rfl⟩ := hl; cases h; assumption

theorem RepT.slc_len {M : Mem} {v : Value} {sz : Nat} {nl : Bool} {es : List Dt} (h : RepT M v (.slc sz nl es)) :
    ∃ a cap, v = .slice a es.length cap ∧ es.length ≤ cap := by
  cases h with
  | nil => exact ⟨none, 0, rfl, Nat.le_refl _⟩
  | slc val ha hl hc => subst hl; exact ⟨_, _, rfl, hc⟩

end Go.DI

/-
  '==' on values of cells of plain kinds.
-/
namespace Go.DI
open Go

theorem eqCells_len : ∀ {cs ds : List Dt} {r : Bool}, eqCells cs ds = some r → cs.length = ds.length
  | [], [], _, _ => rfl
  | [], _ :: _, _, h => by simp [eqCells] at h
  | _ :: _, [], _, h => by simp [eqCells] at h
  | c :: cs, d :: ds, r, h => by
    simp only [eqCells] at h
    cases h1 : eqCell c d with
    | none => simp [h1] at h
    | some a =>
      simp only [h1] at h
      cases h2 : eqCells cs ds with
      | none => simp [h2] at h
      | some b => simp [eqCells_len h2]

theorem eqCells_append : ∀ {as cs bs ds : List Dt} {r : Bool}, as.length = cs.length → eqCells (as ++ bs) (cs ++ ds) = some r →
    ∃ r1 r2, eqCells as cs = some r1 ∧ eqCells bs ds = some r2 ∧ r = (r1 && r2)
  | [], [], bs, ds, r, _, h => ⟨true, r, rfl, h, by simp⟩
  | a :: as, c :: cs, bs, ds, r, hl, h => by
    simp only [List.cons_append, eqCells] at h
    cases h1 : eqCell a c with
    | none => simp [h1] at h
    | some x =>
      simp only [h1] at h
      cases h2 : eqCells (as ++ bs) (cs ++ ds) with
      | none => simp [h2] at h
      | some y =>
        simp only [h2, Option.some.injEq] at h
        obtain ⟨r1, r2, e1, e2, e3⟩ := eqCells_append (by simpa using hl) h2
        refine ⟨x && r1, r2, by simp [eqCells, h1, e1], e2, ?_⟩
        rw [← h, e3, Bool.and_assoc]
  | [], _ :: _, _, _, _, hl, _ => by simp at hl
  | _ :: _, [], _, _, _, hl, _ => by simp at hl

/-- a value of a type, and its cells -/
def ValOf (P : Program) (M : Mem) (t : TypeId) (x : Value) (cs : List Dt) : Prop :=
  (isAggT P t = true ∧ ∃ xs : Array Value, x = .agg xs ∧ RepL (RepT M) xs.toList cs ∧ cs.length = P.cellsOf t) ∨
  (isAggT P t = false ∧ ∃ c, cs = [c] ∧ RepT M x c)

section
variable {P : Program} {w : World} {M : Mem}

theorem run_part {t : TypeId} {xs : Array Value} {cs : List Dt} {off : Nat} (hok : okT P t = true) (h : RepL (RepT M) xs.toList cs)
    (hl : off + P.cellsOf t ≤ cs.length) (h1 : isAggT P t = false → P.cellsOf t = 1) :
    ∃ v, (part t xs off).run P w = .ok v w ∧ ValOf P M t v ((cs.drop off).take (P.cellsOf t)) := by
  have hs : xs.size = cs.length := by have := h.1; simpa using this
  simp only [part, Sem.run_bind, run_agg hok, Result.andThen_ok]
  cases ha : isAggT P t with
  | true =>
    simp only [if_true, Sem.run_bind, run_size hok, Result.andThen_ok, Sem.run_pure]
    refine ⟨_, rfl, .inl ⟨ha, _, rfl, ?_, by simp; omega⟩⟩
    have e : (xs.extract off (off + P.cellsOf t)).toList = (xs.toList.drop off).take (P.cellsOf t) := by
      rw [Array.toList_extract]; simp [List.extract]
    rw [e]
    exact (h.drop off).take _
  | false =>
    have h1' := h1 ha
    rw [h1'] at hl ⊢
    have hlt : off < cs.length := by omega
    obtain ⟨v, hv, hr⟩ := h.get (List.getElem?_eq_getElem hlt)
    have hv' : xs[off]? = some v := by simpa using hv
    refine ⟨v, by simp [hv'], .inr ⟨ha, cs[off], ?_, hr⟩⟩
    rw [List.drop_eq_getElem_cons hlt]; rfl

theorem plain_agg : ∀ d t, plainTy P d t = true → okT P t = true ∧ (isAggT P t = false → P.cellsOf t = 1)
  | 0, _, h => by simp [plainTy] at h
  | d + 1, t, h => by
    unfold plainTy at h
    unfold okT isAggT
    split at h <;> simp_all

theorem fitK_append : ∀ {a b : List LK} {cs : List Dt}, fitK (a ++ b) cs = true → fitK a (cs.take a.length) = true ∧ fitK b (cs.drop a.length) = true
  | [], b, cs, h => ⟨by cases cs <;> rfl, h⟩
  | k :: a, b, [], h => by simp [fitK] at h
  | k :: a, b, c :: cs, h => by
    simp only [List.cons_append, fitK, Bool.and_eq_true] at h
    obtain ⟨h1, h2⟩ := fitK_append h.2
    exact ⟨by simp [fitK, h.1, h1], by simpa using h2⟩

theorem fitK_len : ∀ {a : List LK} {cs : List Dt}, fitK a cs = true → cs.length = a.length
  | [], [], _ => rfl
  | [], _ :: _, h => by simp [fitK] at h
  | _ :: _, [], h => by simp [fitK] at h
  | _ :: _, _ :: _, h => by simp only [fitK, Bool.and_eq_true] at h; simp [fitK_len h.2]

theorem kinds_len : ∀ {d : Nat} {t : TypeId}, plainTy P d t = true → (kindsOf P d t).length = P.cellsOf t
  | 0, _, h => by simp [plainTy] at h
  | d + 1, t, h => by
    unfold plainTy at h
    split at h
    · rename_i hu; simp only [beq_iff_eq] at h; simp [kindsOf, hu, h]
    · rename_i k hu; simp only [beq_iff_eq] at h; simp [kindsOf, hu, h]
    · rename_i hu; simp only [beq_iff_eq] at h; simp [kindsOf, hu, h]
    · simp only [Bool.and_eq_true, beq_iff_eq] at h; exact h.2
    · simp only [Bool.and_eq_true, beq_iff_eq] at h; exact h.2
    · simp at h

theorem plain_eqFields (D d : Nat) (xs ys : Array Value) {cs ds : List Dt} (hx : RepL (RepT M) xs.toList cs) (hy : RepL (RepT M) ys.toList ds) (hcd : cs.length = ds.length) :
    ∀ (fs : List Field) (off : Nat) (r : Bool), off ≤ cs.length →
      (∀ f ∈ fs, f.name ≠ "_" ∧ plainTy P d f.type = true ∧
        ∀ (x y : Value) (as bs : List Dt) (r : Bool), ValOf P M f.type x as → ValOf P M f.type y bs → fitK (kindsOf P d f.type) as = true → fitK (kindsOf P d f.type) bs = true → eqCells as bs = some r → (Op.equalIn D f.type x y).run P w = .ok r w) →
      fitK (fs.flatMap fun f => kindsOf P d f.type) (cs.drop off) = true → fitK (fs.flatMap fun f => kindsOf P d f.type) (ds.drop off) = true →
      fs.foldl (fun n f => if n == f.offset then n + P.cellsOf f.type else cs.length + 1) off = cs.length →
      eqCells (cs.drop off) (ds.drop off) = some r → (Op.eqFields D xs ys fs).run P w = .ok r w
  | [], off, r, hoff, _, _, _, hc, he => by
    simp only [List.foldl_nil] at hc
    have e1 : cs.drop off = [] := by rw [hc]; simp
    have e2 : ds.drop off = [] := by rw [hc, hcd]; simp
    rw [e1, e2] at he
    simp only [eqCells, Option.some.injEq] at he
    subst he
    rfl
  | f :: fs, off, r, hoff, hf, kx, ky, hc, he => by
    obtain ⟨hn, hpl, hf1⟩ := hf f (by simp)
    obtain ⟨hok, h1⟩ := plain_agg d f.type hpl
    have hkl := kinds_len hpl
    have big : ∀ (l : List Field) (n : Nat), cs.length < n → cs.length < l.foldl (fun n f => if n == f.offset then n + P.cellsOf f.type else cs.length + 1) n := by
      intro l
      induction l with
      | nil => intro n hn; exact hn
      | cons g l ih =>
        intro n hn
        simp only [List.foldl_cons]
        apply ih
        split <;> omega
    simp only [List.foldl_cons] at hc
    have ho : off = f.offset := by
      by_cases e : off = f.offset
      · exact e
      · have : (off == f.offset) = false := by simpa using e
        rw [this] at hc
        simp only [Bool.false_eq_true, if_false] at hc
        have := big fs (cs.length + 1) (by omega)
        omega
    rw [ho] at hc he hoff kx ky
    simp only [List.flatMap_cons] at kx ky
    obtain ⟨kx1, kx2⟩ := fitK_append kx
    obtain ⟨ky1, ky2⟩ := fitK_append ky
    rw [hkl] at kx1 kx2 ky1 ky2
    rw [List.drop_drop] at kx2 ky2
    simp only [beq_self_eq_true, if_true] at hc
    have hle : f.offset + P.cellsOf f.type ≤ cs.length := by
      by_cases e : f.offset + P.cellsOf f.type ≤ cs.length
      · exact e
      · have := big fs (f.offset + P.cellsOf f.type) (by omega)
        omega
    have sp : ∀ l : List Dt, l.drop f.offset = (l.drop f.offset).take (P.cellsOf f.type) ++ l.drop (f.offset + P.cellsOf f.type) := by
      intro l; rw [← List.drop_drop, List.take_append_drop]
    rw [sp cs, sp ds] at he
    obtain ⟨r1, r2, e1, e2, e3⟩ := eqCells_append (by simp; omega) he
    obtain ⟨a, ha, va⟩ := run_part (w := w) (off := f.offset) hok hx hle h1
    obtain ⟨b, hb, vb⟩ := run_part (w := w) (off := f.offset) hok hy (by omega) h1
    have hr := hf1 a b _ _ r1 va vb kx1 ky1 e1
    have ih := plain_eqFields D d xs ys hx hy hcd fs (f.offset + P.cellsOf f.type) r2 hle (fun g hg => hf g (by simp [hg])) kx2 ky2 hc e2
    subst e3
    cases r1 with
    | true => simp [Op.eqFields, hn, ha, hb, hr, ih]
    | false => simp [Op.eqFields, hn, ha, hb, hr]

theorem plain_eqItems (D d : Nat) (xs ys : Array Value) {cs ds : List Dt} (hx : RepL (RepT M) xs.toList cs) (hy : RepL (RepT M) ys.toList ds) (hcd : cs.length = ds.length)
    {e : TypeId} (hpl : plainTy P d e = true) (hok : okT P e = true) (h1 : isAggT P e = false → P.cellsOf e = 1)
    (hf1 : ∀ (x y : Value) (as bs : List Dt) (r : Bool), ValOf P M e x as → ValOf P M e y bs → fitK (kindsOf P d e) as = true → fitK (kindsOf P d e) bs = true → eqCells as bs = some r → (Op.equalIn D e x y).run P w = .ok r w) :
    ∀ (m k : Nat) (r : Bool), (k + m) * P.cellsOf e = cs.length → fitK (List.replicate m (kindsOf P d e)).flatten (cs.drop (k * P.cellsOf e)) = true → fitK (List.replicate m (kindsOf P d e)).flatten (ds.drop (k * P.cellsOf e)) = true → eqCells (cs.drop (k * P.cellsOf e)) (ds.drop (k * P.cellsOf e)) = some r →
      (Op.eqItems D e (P.cellsOf e) xs ys (List.range' k m)).run P w = .ok r w
  | 0, k, r, hc, _, _, he => by
    simp only [Nat.add_zero] at hc
    have e1 : cs.drop (k * P.cellsOf e) = [] := by rw [hc]; simp
    have e2 : ds.drop (k * P.cellsOf e) = [] := by rw [hc, hcd]; simp
    rw [e1, e2] at he
    simp only [eqCells, Option.some.injEq] at he
    subst he
    rfl
  | m + 1, k, r, hc, kx, ky, he => by
    have hkl := kinds_len hpl
    have hc' : (k + 1 + m) * P.cellsOf e = cs.length := by rw [← hc]; congr 1; omega
    have hk1 : (k + 1) * P.cellsOf e ≤ cs.length := by rw [← hc']; exact Nat.mul_le_mul_right _ (by omega)
    have es : k * P.cellsOf e + P.cellsOf e = (k + 1) * P.cellsOf e := by rw [Nat.add_mul, Nat.one_mul]
    have sp : ∀ l : List Dt, l.drop (k * P.cellsOf e) = (l.drop (k * P.cellsOf e)).take (P.cellsOf e) ++ l.drop ((k + 1) * P.cellsOf e) := by
      intro l; rw [← es, ← List.drop_drop, List.take_append_drop]
    rw [sp cs, sp ds] at he
    simp only [List.replicate_succ, List.flatten_cons] at kx ky
    obtain ⟨kx1, kx2⟩ := fitK_append kx
    obtain ⟨ky1, ky2⟩ := fitK_append ky
    rw [hkl] at kx1 kx2 ky1 ky2
    rw [List.drop_drop, es] at kx2 ky2
    obtain ⟨r1, r2, e1, e2, e3⟩ := eqCells_append (by simp; omega) he
    obtain ⟨a, ha, va⟩ := run_part (w := w) (off := k * P.cellsOf e) hok hx (by omega) h1
    obtain ⟨b, hb, vb⟩ := run_part (w := w) (off := k * P.cellsOf e) hok hy (by omega) h1
    have hr := hf1 a b _ _ r1 va vb kx1 ky1 e1
    have ih := plain_eqItems D d xs ys hx hy hcd hpl hok h1 hf1 m (k + 1) r2 hc' kx2 ky2 e2
    subst e3
    cases r1 with
    | true => simp [List.range'_succ, Op.eqItems, ha, hb, hr, ih]
    | false => simp [List.range'_succ, Op.eqItems, ha, hb, hr]

theorem eqCells_one {c d : Dt} {r : Bool} (h : eqCells [c] [d] = some r) : eqCell c d = some r := by
  simp only [eqCells] at h
  cases hc : eqCell c d with
  | none => simp [hc] at h
  | some a => simp [hc] at h; rw [← h]

theorem plain_eq : ∀ (d : Nat) (t : TypeId), plainTy P d t = true → ∀ D, d ≤ D → ∀ (x y : Value) (cs ds : List Dt) (r : Bool),
    ValOf P M t x cs → ValOf P M t y ds → fitK (kindsOf P d t) cs = true → fitK (kindsOf P d t) ds = true → eqCells cs ds = some r → (Op.equalIn D t x y).run P w = .ok r w
  | 0, t, h, _, _, _, _, _, _, _, _, _, _, _, _ => by simp [plainTy] at h
  | d + 1, t, h, 0, hD, _, _, _, _, _, _, _, _, _, _ => by omega
  | d + 1, t, h, D + 1, hD, x, y, cs, ds, r, hx, hy, kx, ky, he => by
    have hp := h
    unfold plainTy at h
    have one : isAggT P t = false → ∃ c c', cs = [c] ∧ ds = [c'] ∧ RepT M x c ∧ RepT M y c' ∧ eqCell c c' = some r := by
      intro ha
      rcases hx with ⟨h1, _⟩ | ⟨_, c, rfl, hc⟩
      · rw [ha] at h1; cases h1
      rcases hy with ⟨h1, _⟩ | ⟨_, c', rfl, hc'⟩
      · rw [ha] at h1; cases h1
      exact ⟨c, c', rfl, rfl, hc, hc', eqCells_one he⟩
    have two : isAggT P t = true → ∃ xs ys : Array Value, x = .agg xs ∧ y = .agg ys ∧ RepL (RepT M) xs.toList cs ∧ RepL (RepT M) ys.toList ds ∧ cs.length = P.cellsOf t ∧ ds.length = P.cellsOf t := by
      intro ha
      rcases hx with ⟨_, xs, rfl, h1, h2⟩ | ⟨h1, _⟩
      rcases hy with ⟨_, ys, rfl, h3, h4⟩ | ⟨h1, _⟩
      · exact ⟨xs, ys, rfl, rfl, h1, h3, h2, h4⟩
      all_goals (rw [ha] at h1; cases h1)
    split at h
    · rename_i hu
      obtain ⟨c, c', rfl, rfl, hc, hc', he⟩ := one (by simp [isAggT, hu])
      simp only [kindsOf, hu, fitK, Bool.and_true] at kx ky
      cases hc <;> simp [fit1] at kx
      cases hc' <;> simp [fit1] at ky
      simp [eqCell] at he
      subst he
      simp [Op.equalIn, run_und hu]
    · rename_i k hu
      obtain ⟨c, c', rfl, rfl, hc, hc', he⟩ := one (by simp [isAggT, hu])
      simp only [kindsOf, hu, fitK, Bool.and_true] at kx ky
      cases hc <;> simp [fit1] at kx
      cases hc' <;> simp [fit1] at ky
      subst kx; subst ky
      simp [eqCell] at he
      subst he
      simp [Op.equalIn, run_und hu]
    · rename_i hu
      obtain ⟨c, c', rfl, rfl, hc, hc', he⟩ := one (by simp [isAggT, hu])
      simp only [kindsOf, hu, fitK, Bool.and_true] at kx ky
      cases c <;> simp [fit1] at kx
      cases c' <;> simp [fit1] at ky
      obtain ⟨s1, rfl, h1⟩ := hc.str_inv
      obtain ⟨s2, rfl, h2⟩ := hc'.str_inv
      simp [eqCell] at he
      subst he
      rw [run_equalIn_string w D t _ _ hu, ByteArray.toList_eq, ByteArray.toList_eq, h1, h2]
    · rename_i fs hu
      obtain ⟨xs, ys, rfl, rfl, hxs, hys, lx, ly⟩ := two (by simp [isAggT, hu])
      simp only [Bool.and_eq_true, Bool.not_eq_true', List.all_eq_true, bne_iff_ne, ne_eq, beq_iff_eq] at h
      obtain ⟨⟨⟨h1, h2⟩, h3⟩, _⟩ := h
      have hf : P.fieldsOf t = fs := by simp [Program.fieldsOf, hu]
      rw [run_equalIn_struct w D t xs ys (by rw [hf]; exact hu) h1, hf]
      simp only [kindsOf, hu] at kx ky
      refine plain_eqFields D d xs ys hxs hys (by omega) fs.toList 0 r (by omega) (fun f hfm => ?_) (by simpa using kx) (by simpa using ky) (by rw [lx]; simpa using h3) (by simpa using he)
      obtain ⟨n1, n2⟩ := h2 f hfm
      exact ⟨n1, n2, fun x y as bs r => plain_eq d f.type n2 D (by omega) x y as bs r⟩
    · rename_i n e hu
      obtain ⟨xs, ys, rfl, rfl, hxs, hys, lx, ly⟩ := two (by simp [isAggT, hu])
      simp only [Bool.and_eq_true, beq_iff_eq] at h
      obtain ⟨⟨h1, h2⟩, _⟩ := h
      simp only [kindsOf, hu] at kx ky
      obtain ⟨hok, h1c⟩ := plain_agg d e h1
      obtain ⟨i, hi⟩ := info_of_okT hok
      rw [run_equalIn_array w D xs ys hu hi, List.range_eq_range']
      exact plain_eqItems D d xs ys hxs hys (by omega) h1 hok h1c (fun x y as bs r => plain_eq d e h1 D (by omega) x y as bs r) n 0 r (by rw [lx, ← h2]; simp) (by simpa using kx) (by simpa using ky) (by simpa using he)
    · simp at h

theorem plain_guard : ∀ (d : Nat) (t : TypeId), plainTy P d t = true → ∀ D, d ≤ D → P.eqGuardType D t = false
  | 0, t, h, _, _ => by simp [plainTy] at h
  | d + 1, t, h, 0, hD => by omega
  | d + 1, t, h, D + 1, hD => by
    unfold plainTy at h
    unfold Program.eqGuardType
    split at h
    · rename_i hu; simp [hu]
    · rename_i hu; simp [hu]
    · rename_i hu; simp [hu]
    · rename_i fs hu
      simp only [Bool.and_eq_true, Bool.not_eq_true', List.all_eq_true, bne_iff_ne, ne_eq, beq_iff_eq] at h
      obtain ⟨⟨⟨h1, h2⟩, h3⟩, _⟩ := h
      simp only [hu]
      rw [Array.any_eq_false']
      intro f hf
      have := plain_guard d f.type (h2 f (by simpa using hf)).2 D (by omega)
      simp [this]
    · rename_i n e hu
      simp only [Bool.and_eq_true, beq_iff_eq] at h
      simp only [hu]
      exact plain_guard d e h.1.1 D (by omega)
    · simp at h

theorem depth_le : 5 ≤ P.depth := by unfold Program.depth Made.depth; omega
end
end Go.DI

/-
  Operations that give a value alone.
-/
namespace Go.DI
open Go

section
variable {P : Program} {w : World} {Γ : Cx}

theorem eqGuard_int {op : BinOp} {t : TypeId} {X Y : Operand} {k k' : IntKind} {a b : Int} : (eqGuard op t X Y (.int k a) (.int k' b)).run P w = .ok () w := by
  unfold eqGuard; cases op <;> simp
theorem eqGuard_str {op : BinOp} {t : TypeId} {X Y : Operand} {a b : ByteArray} : (eqGuard op t X Y (.string a) (.string b)).run P w = .ok () w := by
  unfold eqGuard; cases op <;> simp

theorem intBin_sound {op : BinOp} {t : TypeId} {k : IntKind} {a b : Int} {r : Dt} (h : intBin op k a b = some r) :
    ∃ v, (binOp op t (.int k a) (.int k b)).run P w = .ok v w ∧ RepT Γ.M v r := by
  cases op <;> simp only [intBin] at h
  case quo =>
    by_cases hb : b = 0
    · simp [hb] at h
    · rw [if_neg hb] at h; simp only [Option.some.injEq] at h; subst h; exact ⟨_, by simp [binOp, Op.intDiv, hb], .int⟩
  case rem =>
    by_cases hb : b = 0
    · simp [hb] at h
    · rw [if_neg hb] at h; simp only [Option.some.injEq] at h; subst h; exact ⟨_, by simp [binOp, Op.intDiv, hb], .int⟩
  case and => simp only [Option.some.injEq] at h; subst h; exact ⟨_, by simp only [binOp, Op.intBits, ne_eq, not_true_eq_false, if_false]; rfl, .int⟩
  case or => simp only [Option.some.injEq] at h; subst h; exact ⟨_, by simp only [binOp, Op.intBits, ne_eq, not_true_eq_false, if_false]; rfl, .int⟩
  case xor => simp only [Option.some.injEq] at h; subst h; exact ⟨_, by simp only [binOp, Op.intBits, ne_eq, not_true_eq_false, if_false]; rfl, .int⟩
  case andNot => simp only [Option.some.injEq] at h; subst h; exact ⟨_, by simp only [binOp, Op.intBits, ne_eq, not_true_eq_false, if_false]; rfl, .int⟩
  all_goals first
    | (simp at h; done)
    | (simp only [Option.some.injEq] at h; subst h; exact ⟨_, by simp only [binOp, Op.intArith, Op.intCmp, ne_eq, not_true_eq_false, if_false]; rfl, by first | exact .int | exact .bool⟩)

theorem binInt_sound {op : BinOp} {t : TypeId} {k k' : IntKind} {a b : Int} {d : D}
    (h : (match op with | .shl | .shr => (shiftD op k a b).map D.pv | _ => if k = k' then (intBin op k a b).map D.pv else none) = some d) :
    ∃ v, (binOp op t (.int k a) (.int k' b)).run P w = .ok v w ∧ Rep Γ v d := by
  have gen : ∀ (o : BinOp), (if k = k' then (intBin o k a b).map D.pv else none) = some d → ∃ v, (binOp o t (.int k a) (.int k' b)).run P w = .ok v w ∧ Rep Γ v d := by
    intro o h
    by_cases hk : k = k'
    · subst hk
      simp only [if_true] at h
      cases hq : intBin o k a b with
      | none => simp [hq] at h
      | some r =>
        simp [hq] at h; subst h
        obtain ⟨v, hv, hr⟩ := intBin_sound (P := P) (w := w) (Γ := Γ) (t := t) hq
        exact ⟨v, hv, .pv hr⟩
    · simp [hk] at h
  cases op
  case shl =>
    simp only [shiftD] at h
    by_cases hb : b < 0
    · simp [hb] at h
    · simp [hb] at h; subst h; exact ⟨_, by simp [binOp, Op.shift, hb], .pv .int⟩
  case shr =>
    simp only [shiftD] at h
    by_cases hb : b < 0
    · simp [hb] at h
    · simp [hb] at h; subst h; exact ⟨_, by simp [binOp, Op.shift, hb], .pv .int⟩
  all_goals exact gen _ h

theorem binStr_sound {op : BinOp} {t : TypeId} {a b : ByteArray} {r : Dt} (h : strBin op a.data.toList b.data.toList = some r) :
    ∃ v, (binOp op t (.string a) (.string b)).run P w = .ok v w ∧ RepT Γ.M v r := by
  have e : ∀ x : ByteArray, x.toList = x.data.toList := fun x => ByteArray.toList_eq x
  cases op <;> simp only [strBin] at h <;> try (simp at h; done)
  case add =>
    by_cases hl : a.data.toList.length + b.data.toList.length ≤ 70368744177664
    case neg => rw [if_neg hl] at h; simp at h
    rw [if_pos hl] at h
    simp only [Option.some.injEq] at h; subst h
    have hi : ¬ ((a.size : Int) + (b.size : Int) > IntKind.i64.max) := by
      have : (IntKind.i64.max : Int) = 9223372036854775807 := by decide
      rw [this]
      have h1 : a.size = a.data.toList.length := (Array.length_toList (xs := a.data)).symm
      have h2 : b.size = b.data.toList.length := (Array.length_toList (xs := b.data)).symm
      omega
    refine ⟨.string (a ++ b), ?_, .str (by simp)⟩
    simp only [binOp, Op.stringOp]
    rw [if_neg (by push_cast; exact hi)]
    rfl
  all_goals
    simp only [Option.some.injEq] at h
    subst h
    refine ⟨_, ?_, .bool⟩
    simp only [binOp, Op.stringOp, e]
    rfl

theorem equal_run {t : TypeId} {vx vy : Value} : (Op.equal t vx vy).run P w = (Op.equalIn (9999 + 1) t vx vy).run P w := rfl

def nonNum : Value → Bool
  | .int .. | .float .. | .complex .. | .string _ => false
  | _ => true

theorem binOp_eql {t : TypeId} {vx vy : Value} {b : Bool} (h : nonNum vx = true) (he : (Op.equal t vx vy).run P w = .ok b w) : (binOp .eql t vx vy).run P w = .ok (.bool b) w := by
  have : binOp .eql t vx vy = (do pure (.bool (← Op.equal t vx vy)) : Sem Value) := by
    cases vx <;> cases vy <;> first | rfl | simp [nonNum] at h
  rw [this]; simp [he]

theorem binOp_neq {t : TypeId} {vx vy : Value} {b : Bool} (h : nonNum vx = true) (he : (Op.equal t vx vy).run P w = .ok b w) : (binOp .neq t vx vy).run P w = .ok (.bool (!b)) w := by
  have : binOp .neq t vx vy = (do pure (.bool (!(← Op.equal t vx vy))) : Sem Value) := by
    cases vx <;> cases vy <;> first | rfl | simp [nonNum] at h
  rw [this]; simp [he]

theorem eqD_sound {op : BinOp} {t : TypeId} {X Y : Operand} {x y : D} {vx vy : Value} {b : Bool} (h : eqD P t x y = some b) (hx : Rep Γ vx x) (hy : Rep Γ vy y) :
    nonNum vx = true ∧ (eqGuard op t X Y vx vy).run P w = .ok () w ∧ (Op.equal t vx vy).run P w = .ok b w := by
  have guard0 : ∀ vx vy : Value, (Unit → Unit → ¬(vx = .nilIface ∧ vy = .nilIface)) → (∀ a b : Array Value, ¬(vx = .agg a ∧ vy = .agg b)) → (eqGuard op t X Y vx vy).run P w = .ok () w := by
    intro vx vy
    have key : ∀ g : Bool, (Unit → Unit → ¬(vx = .nilIface ∧ vy = .nilIface)) → (∀ a b : Array Value, ¬(vx = .agg a ∧ vy = .agg b)) → (if (!g) = true then (pure () : Sem Unit) else
        match vx, vy with
        | .nilIface, .nilIface =>
          if (X matches .const _) || (Y matches .const _) then pure () else do
            if ← Op.eqGuardIn Op.maxDepth t vx vy then unsupported (.noEntry "binop/eql: two nil values of an interface type with methods, neither of them the literal nil")
        | .agg _, .agg _ => do
          if !(← program).eqGuardType (← program).depth t then pure () else
            if ← Op.eqGuardIn Op.maxDepth t vx vy then unsupported (.noEntry "binop/eql: two nil values of an interface type with methods, in a part of a struct or an array")
        | _, _ => pure ()).run P w = .ok () w := by
      intro g h1 h2
      cases g
      · rfl
      · simp only [Bool.not_true, Bool.false_eq_true, if_false]
        split
        · exact (h1 () () ⟨rfl, rfl⟩).elim
        · exact (h2 _ _ ⟨rfl, rfl⟩).elim
        · rfl
    intro h1 h2
    unfold eqGuard
    exact key _ h1 h2
  rw [equal_run]
  have h5 : 5 ≤ 9999 + 1 := by omega
  revert h5
  generalize 9999 = D
  intro h5
  unfold eqD at h
  split at h
  · simp at h
  · rename_i hu
    split at h <;> simp at h
    subst h
    rw [hx.pv_inv.bool_inv, hy.pv_inv.bool_inv]
    exact ⟨rfl, guard0 _ _ (by simp) (by simp), by simp [Op.equalIn, run_und hu]⟩
  · rename_i fs hu
    split at h <;> try (simp at h; done)
    rename_i xs ys
    split at h <;> try (simp at h; done)
    rename_i hc
    simp only [Bool.and_eq_true] at hc
    obtain ⟨⟨c1, c2⟩, c3⟩ := hc
    obtain ⟨us, rfl, hl⟩ := hx.pv_inv.agg_inv
    obtain ⟨vs, rfl, hm⟩ := hy.pv_inv.agg_inv
    have ha : isAggT P t = true := by simp [isAggT, hu]
    have hk := kinds_len c1
    refine ⟨rfl, run_eqGuard_agg w op t X Y us vs (plain_guard 5 t c1 _ depth_le), ?_⟩
    exact plain_eq (M := Γ.M) 5 t c1 (D + 1) h5 _ _ xs ys b (.inl ⟨ha, us, rfl, hl, by rw [fitK_len c2, hk]⟩) (.inl ⟨ha, vs, rfl, hm, by rw [fitK_len c3, hk]⟩) c2 c3 h
  · rename_i n e hu
    split at h <;> try (simp at h; done)
    rename_i xs ys
    split at h <;> try (simp at h; done)
    rename_i hc
    simp only [Bool.and_eq_true] at hc
    obtain ⟨⟨c1, c2⟩, c3⟩ := hc
    obtain ⟨us, rfl, hl⟩ := hx.pv_inv.agg_inv
    obtain ⟨vs, rfl, hm⟩ := hy.pv_inv.agg_inv
    have ha : isAggT P t = true := by simp [isAggT, hu]
    have hk := kinds_len c1
    refine ⟨rfl, run_eqGuard_agg w op t X Y us vs (plain_guard 5 t c1 _ depth_le), ?_⟩
    exact plain_eq (M := Γ.M) 5 t c1 (D + 1) h5 _ _ xs ys b (.inl ⟨ha, us, rfl, hl, by rw [fitK_len c2, hk]⟩) (.inl ⟨ha, vs, rfl, hm, by rw [fitK_len c3, hk]⟩) c2 c3 h
  · rename_i e hu
    split at h <;> simp at h <;> subst h
    · cases hx.pv_inv; cases hy.pv_inv; exact ⟨rfl, guard0 _ _ (by simp) (by simp), by simp [Op.equalIn, run_und hu]⟩
    · cases hx.pv_inv; cases hy; exact ⟨rfl, guard0 _ _ (by simp) (by simp), by simp [Op.equalIn, run_und hu]⟩
    · cases hx.pv_inv; cases hy; exact ⟨rfl, guard0 _ _ (by simp) (by simp), by simp [Op.equalIn, run_und hu]⟩
    · cases hy.pv_inv; cases hx; exact ⟨rfl, guard0 _ _ (by simp) (by simp), by simp [Op.equalIn, run_und hu]⟩
    · cases hy.pv_inv; cases hx; exact ⟨rfl, guard0 _ _ (by simp) (by simp), by simp [Op.equalIn, run_und hu]⟩
  · rename_i e hu
    split at h <;> try (simp at h; done)
    rename_i sz es
    have ey : vy = .slice none 0 0 := by
      cases hy.pv_inv; rfl
    subst ey
    split at h
    · simp at h; subst h
      cases hx
      exact ⟨rfl, guard0 _ _ (by simp) (by simp), by simp [Op.equalIn, run_und hu]⟩
    · split at h <;> simp at h
      subst h
      rename_i hl
      cases listOf_rep hx hl <;> exact ⟨rfl, guard0 _ _ (by simp) (by simp), by simp [Op.equalIn, run_und hu]⟩
  · rename_i e hu
    split at h <;> simp at h <;> subst h
    · cases hx.pv_inv; cases hy.pv_inv; exact ⟨rfl, guard0 _ _ (by simp) (by simp), by simp [Op.equalIn, run_und hu]⟩
    · cases hx.pv_inv; cases hy; exact ⟨rfl, guard0 _ _ (by simp) (by simp), by simp [Op.equalIn, run_und hu]⟩
    · cases hy.pv_inv; cases hx; exact ⟨rfl, guard0 _ _ (by simp) (by simp), by simp [Op.equalIn, run_und hu]⟩
  · rename_i e hu
    split at h <;> simp at h <;> subst h
    · cases hx.pv_inv; cases hy.pv_inv; exact ⟨rfl, guard0 _ _ (by simp) (by simp), by simp [Op.equalIn, run_und hu]⟩
    · cases hx.pv_inv; cases hy; exact ⟨rfl, guard0 _ _ (by simp) (by simp), by simp [Op.equalIn, run_und hu]⟩
    · cases hy.pv_inv; cases hx; exact ⟨rfl, guard0 _ _ (by simp) (by simp), by simp [Op.equalIn, run_und hu]⟩
    · cases hx.pv_inv; cases hy.pv_inv; exact ⟨rfl, guard0 _ _ (by simp) (by simp), by simp [Op.equalIn, run_und hu]⟩
    · cases hx.pv_inv; cases hy.pv_inv; exact ⟨rfl, guard0 _ _ (by simp) (by simp), by simp [Op.equalIn, run_und hu]⟩
  · rename_i e hu
    split at h <;> simp at h <;> subst h
    · cases hx.pv_inv; cases hy; exact ⟨rfl, guard0 _ _ (by simp) (by simp), by simp [Op.equalIn, run_und hu]⟩
    · cases hy.pv_inv; cases hx; exact ⟨rfl, guard0 _ _ (by simp) (by simp), by simp [Op.equalIn, run_und hu]⟩
  · simp at h

theorem binD_sound {op : BinOp} {t : TypeId} {X Y : Operand} {x y d : D} {vx vy : Value} (h : binD P op t x y = some d) (hx : Rep Γ vx x) (hy : Rep Γ vy y) :
    ∃ v, (do eqGuard op t X Y vx vy; binOp op t vx vy : Sem Value).run P w = .ok v w ∧ Rep Γ v d := by
  unfold binD at h
  split at h
  · rename_i k a k' b
    rw [hx.pv_inv.int_inv, hy.pv_inv.int_inv]
    obtain ⟨v, hv, hrep⟩ := binInt_sound (P := P) (w := w) (Γ := Γ) (t := t) h
    exact ⟨v, by simp [eqGuard_int, hv], hrep⟩
  · rename_i a b
    obtain ⟨s1, rfl, h1⟩ := hx.pv_inv.str_inv
    obtain ⟨s2, rfl, h2⟩ := hy.pv_inv.str_inv
    cases hq : strBin op a b with
    | none => simp [hq] at h
    | some r =>
      simp [hq] at h; subst h
      subst h1; subst h2
      obtain ⟨v, hv, hrep⟩ := binStr_sound (P := P) (w := w) (Γ := Γ) (t := t) hq
      exact ⟨v, by simp [eqGuard_str, hv], .pv hrep⟩
  · rename_i hn1 hn2
    have hd : ∃ b, eqD P t x y = some b ∧ ((op = .eql ∧ d = .pv (.bool b)) ∨ (op = .neq ∧ d = .pv (.bool (!b)))) := by
      cases op <;> simp only at h <;> try (simp at h; done)
      all_goals
        cases hq : eqD P t x y with
        | none => simp [hq] at h
        | some b => simp [hq] at h; subst h; exact ⟨b, rfl, by simp⟩
    obtain ⟨b, hb, hop⟩ := hd
    obtain ⟨hn, hg, he⟩ := eqD_sound (w := w) (X := X) (Y := Y) (op := op) hb hx hy
    rcases hop with ⟨rfl, rfl⟩ | ⟨rfl, rfl⟩
    · exact ⟨.bool b, by simp [hg, binOp_eql hn he], .pv .bool⟩
    · exact ⟨.bool (!b), by simp [hg, binOp_neq hn he], .pv .bool⟩

end
end Go.DI

/-
  Operations that give a value alone, at the level of the operation.
-/
namespace Go.DI
open Go

section
variable {P : Program} {w : World} {Γ : Cx}

/-- what an operation gives, the store being s' behind it -/
def Good (P : Program) (Γ : Cx) (a : Act) (o : Oper) (w : World) (s' : St) (d : D) : Prop :=
  ∃ v w' Γ', OpGives P a o w v w' ∧ Rep Γ' v d ∧ Sat Γ' w' s' ∧ Fwd Γ w Γ' w'

theorem Good.pure {a : Act} {o : Oper} {s : St} {d : D} {v : Value} (h : (execOp a.eval o).run P w = .ok (.value v) w) (hr : Rep Γ v d) (hs : Sat Γ w s) : Good P Γ a o w s d :=
  ⟨v, w, Γ, .inl h, hr, hs, .refl _ _⟩

theorem unD_sound {op : UnOp} {x d : D} {vx : Value} (h : unD op x = some d) (hx : Rep Γ vx x) : ∃ v, (Op.unary op vx).run P w = .ok v w ∧ Rep Γ v d := by
  unfold unD at h
  split at h <;> simp at h <;> subst h
  · rw [hx.pv_inv.bool_inv]; exact ⟨_, rfl, .pv .bool⟩
  · rw [hx.pv_inv.int_inv]; exact ⟨_, by simp [Op.unary, Op.intArith], .pv .int⟩
  · rw [hx.pv_inv.int_inv]; exact ⟨_, by simp only [Op.unary, Op.intBits]; rfl, .pv .int⟩

/-! ### parts -/

theorem run_partD {t : TypeId} {xs : Array Value} {cs : List D} {off : Nat} {d : D} (h : RepL (Rep Γ) xs.toList cs) (hd : partD P t cs off = some d) :
    ∃ v, (part t xs off).run P w = .ok v w ∧ Rep Γ v d := by
  unfold partD at hd
  split at hd
  · simp at hd
  rename_i hok
  have hok : okT P t = true := by simpa using hok
  simp only [part, Sem.run_bind, run_agg hok, Result.andThen_ok]
  cases ha : isAggT P t with
  | true =>
    simp only [ha, if_true] at hd ⊢
    split at hd <;> simp at hd
    subst hd
    simp only [Sem.run_bind, run_size hok, Result.andThen_ok, Sem.run_pure]
    refine ⟨_, rfl, mkAgg_rep ?_⟩
    have e : (xs.extract off (off + P.cellsOf t)).toList = (xs.toList.drop off).take (P.cellsOf t) := by
      rw [Array.toList_extract]; simp [List.extract]
    rw [e]
    exact (h.drop off).take _
  | false =>
    simp only [ha, Bool.false_eq_true, if_false] at hd ⊢
    obtain ⟨v, hv, hr⟩ := h.get hd
    have hv' : xs[off]? = some v := by simpa using hv
    exact ⟨v, by simp [hv'], hr⟩

theorem agg_cells {v : Value} {cs : List Dt} (h : RepT Γ.M v (.agg cs)) : ∃ xs : Array Value, v = .agg xs ∧ RepL (Rep Γ) xs.toList (cs.map .pv) := by
  obtain ⟨xs, rfl, hl⟩ := h.agg_inv
  exact ⟨xs, rfl, hl.map_right fun _ _ => .pv⟩

theorem field_sound {s : TypeId} {x d : D} {f : Nat} {vx : Value} (h : fieldD P s x f = some d) (hx : Rep Γ vx x) : ∃ v, (Instr.field s vx f).run P w = .ok v w ∧ Rep Γ v d := by
  unfold fieldD at h
  split at h <;> try (simp at h; done)
  rename_i fs hu
  split at h <;> try (simp at h; done)
  rename_i fd hfd
  simp only [Instr.field, Sem.run_bind, run_und hu, Result.andThen_ok, hfd]
  split at h <;> try (simp at h; done)
  · obtain ⟨xs, rfl, hl⟩ := agg_cells hx.pv_inv
    obtain ⟨v, hv, hr⟩ := run_partD (w := w) hl h
    exact ⟨v, by simp [asAgg, hv], hr⟩
  · obtain ⟨xs, rfl, hl⟩ := hx.agg_inv
    obtain ⟨v, hv, hr⟩ := run_partD (w := w) hl h
    exact ⟨v, by simp [asAgg, hv], hr⟩

theorem intOf_rep {x : D} {n : Int} {vx : Value} (h : intOf? x = some n) (hx : Rep Γ vx x) : ∃ k, vx = .int k n := by
  unfold intOf? at h
  split at h <;> simp at h
  subst h
  exact ⟨_, hx.pv_inv.int_inv⟩

theorem str_getElem {s : ByteArray} {l : List UInt8} (h : s.data.toList = l) {i : Nat} (hi : i < l.length) : s[i]? = some (l.getD i 0) := by
  subst h
  have hs : i < s.size := by have := Array.length_toList (xs := s.data); show i < s.data.size; omega
  rw [getElem?_pos s i hs]
  congr 1
  rw [List.getD_eq_getElem?_getD, List.getElem?_eq_getElem hi]
  rfl

theorem index_sound {t : TypeId} {x i d : D} {vx vi : Value} (h : indexD P t x i = some d) (hx : Rep Γ vx x) (hi : Rep Γ vi i) : ∃ v, (Instr.index t vx vi).run P w = .ok v w ∧ Rep Γ v d := by
  unfold indexD at h
  split at h <;> try (simp at h; done)
  rename_i n hn
  obtain ⟨k, rfl⟩ := intOf_rep hn hi
  split at h <;> try (simp at h; done)
  · rename_i len e cs hu
    split at h <;> try (simp at h; done)
    rename_i hc
    obtain ⟨xs, rfl, hl⟩ := agg_cells hx.pv_inv
    obtain ⟨v, hv, hr⟩ := run_partD (w := w) hl h
    exact ⟨v, by simp [Instr.index, asIntOf, run_und hu, hc.1, hc.2.1, run_size hc.2.2, hv], hr⟩
  · rename_i len e cs hu
    split at h <;> try (simp at h; done)
    rename_i hc
    obtain ⟨xs, rfl, hl⟩ := hx.agg_inv
    obtain ⟨v, hv, hr⟩ := run_partD (w := w) hl h
    exact ⟨v, by simp [Instr.index, asIntOf, run_und hu, hc.1, hc.2.1, run_size hc.2.2, hv], hr⟩
  · rename_i s hu
    split at h <;> simp at h
    subst h
    rename_i hc
    obtain ⟨str, rfl, hl⟩ := hx.pv_inv.str_inv
    have hg := str_getElem hl (i := n.toNat) (by omega)
    refine ⟨.int .u8 ((s.getD n.toNat 0).toNat : Int), ?_, .pv .int⟩
    simp [Instr.index, asIntOf, run_und hu, hc.1, hg, List.getD_eq_getElem?_getD]

theorem extract_sound {x d : D} {i : Nat} {vx : Value} (h : extractD x i = some d) (hx : Rep Γ vx x) : ∃ v, (Instr.extract vx i).run P w = .ok v w ∧ Rep Γ v d := by
  unfold extractD at h
  split at h <;> try (simp at h; done)
  · obtain ⟨vs, rfl, hl⟩ := hx.tup_inv
    obtain ⟨v, hv, hr⟩ := hl.get h
    have hv' : vs[i]? = some v := by simpa using hv
    exact ⟨v, by simp [Instr.extract, hv'], hr⟩
  · rename_i xs
    obtain ⟨vs, rfl, hl⟩ := hx.pv_inv.tup_inv
    cases hc : xs[i]? with
    | none => simp [hc] at h
    | some c =>
      simp [hc] at h; subst h
      obtain ⟨v, hv, hr⟩ := hl.get hc
      have hv' : vs[i]? = some v := by simpa using hv
      exact ⟨v, by simp [Instr.extract, hv'], .pv hr⟩

/-! ### addresses -/

theorem run_fieldPlace {a : Addr} {f : Field} (h : P.cellsOf f.type ≠ 0) : (fieldPlace a f).run P w = .ok (a.add f.offset) w := by
  simp [fieldPlace, run_size' (Nat.pos_of_ne_zero h), h]

theorem addr_add (b o n : Nat) : (⟨b, o, none⟩ : Addr).add n = ⟨b, o + n, none⟩ := by
  unfold Addr.add
  split
  · rename_i h; subst h; rfl
  · rfl

theorem Rep.ptr_inv {v : Value} {id off : Nat} (h : Rep Γ v (.ptr id off)) : ∃ b, v = .pointer (some ⟨b, off, none⟩) ∧ Γ.ρ[id]? = some b := by
  cases h; exact ⟨_, rfl, by assumption⟩

theorem cptr_add {v : Value} {sz i off n : Nat} {es : List Dt} (h : Rep Γ v (.cptr sz es i off)) :
    ∃ b o, v = .pointer (some ⟨b, o, none⟩) ∧ Rep Γ (.pointer (some ⟨b, o + n, none⟩)) (.cptr sz es i (off + n)) := by
  cases h with
  | cptr val he hm hr =>
    rename_i b o e
    refine ⟨b, o + off, rfl, ?_⟩
    rw [Nat.add_assoc]
    exact .cptr val he hm hr

theorem fieldAddr_sound {s : TypeId} {x d : D} {f : Nat} {vx : Value} (h : fieldAddrD P s x f = some d) (hx : Rep Γ vx x) : ∃ v, (Instr.fieldAt s vx f).run P w = .ok v w ∧ Rep Γ v d := by
  unfold fieldAddrD at h
  split at h <;> try (simp at h; done)
  rename_i fs hu
  split at h <;> try (simp at h; done)
  rename_i fd hfd
  split at h <;> try (simp at h; done)
  rename_i hz
  simp only [Instr.fieldAt, Sem.run_bind, run_und hu, Result.andThen_ok, hfd]
  split at h <;> simp at h <;> subst h
  · obtain ⟨b, rfl, hb⟩ := hx.ptr_inv
    exact ⟨_, by simp [Instr.sureAddr, run_fieldPlace hz, addr_add], .ptr hb⟩
  · obtain ⟨b, o, rfl, hb⟩ := cptr_add (n := fd.offset) hx
    exact ⟨_, by simp [Instr.sureAddr, run_fieldPlace hz, addr_add], hb⟩

theorem RepT.slc_cell {M : Mem} {v : Value} {sz : Nat} {nl : Bool} {es : List Dt} (h : RepT M v (.slc sz nl es)) {i : Nat} (hi : i < es.length) :
    ∃ b o cap e, v = .slice (some ⟨b, o, none⟩) es.length cap ∧ es[i]? = some e ∧
      ∃ val : Nat → Value, (∀ j, j < e.cells.length → M b (o + i * sz + j) = some (val j)) ∧ ∀ (j : Nat) (c : Dt), e.cells[j]? = some c → RepT M (val j) c ∧ c.one = true := by
  cases h with
  | nil => simp at hi
  | slc val ha hl hc hsz hm hr =>
    rename_i a b o len cap
    obtain rfl := ha (by omega)
    subst hl
    have he : es[i]? = some es[i] := List.getElem?_eq_getElem hi
    refine ⟨b, o, cap, es[i], rfl, he, val i, fun j hj => ?_, fun j c hc => ⟨hr i j _ c he hc, (hsz i _ he).2 c (List.mem_of_getElem? hc)⟩⟩
    rw [(hsz i _ he).1] at hj
    have := hm i j hi hj
    rwa [← Nat.add_assoc] at this

theorem indexAddr_sound {t : TypeId} {x i d : D} {vx vi : Value} (h : indexAddrD P t x i = some d) (hx : Rep Γ vx x) (hi : Rep Γ vi i) : ∃ v, (Instr.indexAt t vx vi).run P w = .ok v w ∧ Rep Γ v d := by
  unfold indexAddrD at h
  split at h <;> try (simp at h; done)
  rename_i n hn
  obtain ⟨k, rfl⟩ := intOf_rep hn hi
  split at h <;> try (simp at h; done)
  · rename_i len e hu
    split at h <;> try (simp at h; done)
    rename_i hc
    split at h <;> simp at h <;> subst h
    · obtain ⟨b, rfl, hb⟩ := hx.ptr_inv
      exact ⟨_, by simp [Instr.indexAt, asIntOf, run_und hu, Instr.sureAddr, hc.1, hc.2.1, run_size hc.2.2, addr_add], .ptr hb⟩
    · obtain ⟨b, o, rfl, hb⟩ := cptr_add (n := n.toNat * P.cellsOf e) hx
      exact ⟨_, by simp [Instr.indexAt, asIntOf, run_und hu, Instr.sureAddr, hc.1, hc.2.1, run_size hc.2.2, addr_add], hb⟩
  · rename_i e hu
    split at h
    · rename_i id off m sz
      split at h <;> simp at h
      subst h
      rename_i hc
      cases hx with
      | msl hsp hcap hp =>
        rename_i a cap
        obtain ⟨h1, h2, h3⟩ := hp (by omega)
        obtain ⟨b, o, sp⟩ := a
        simp only at h1 h2 h3
        subst h2; subst h3
        refine ⟨_, ?_, .ptr h1⟩
        simp [Instr.indexAt, asIntOf, run_und hu, hc.1, hc.2.1, run_size hc.2.2.2, addr_add, hc.2.2.1]
    · split at h <;> try (simp at h; done)
      rename_i sz nl es hl
      split at h <;> simp at h
      subst h
      rename_i hc
      obtain ⟨b, o, cap, el, rfl, he, val, hm, hr⟩ := (listOf_rep hx hl).slc_cell (i := n.toNat) (by omega)
      refine ⟨.pointer (some ⟨b, o + n.toNat * sz + 0, none⟩), ?_, .cptr val he hm hr⟩
      simp [Instr.indexAt, asIntOf, run_und hu, hc.1, hc.2.1, run_size hc.2.2.2, addr_add, hc.2.2.1]

/-! ### slices -/

def RepO (Γ : Cx) (v : Option Value) (d : Option D) : Prop := match d, v with | some d, some v => Rep Γ v d | none, none => True | _, _ => False

theorem optInt_rep {x : Option D} {dflt n : Int} {vx : Option Value} (h : optInt x dflt = some n) (hx : RepO Γ vx x) : (vx = none ∧ n = dflt) ∨ ∃ k, vx = some (.int k n) := by
  cases x with
  | none =>
    cases vx with
    | none => simp [optInt] at h; exact .inl ⟨rfl, h.symm⟩
    | some v => exact hx.elim
  | some d =>
    cases vx with
    | none => exact hx.elim
    | some v =>
      obtain ⟨k, rfl⟩ := intOf_rep (by simpa [optInt] using h) hx
      exact .inr ⟨k, rfl⟩

theorem run_sliceBounds {isS : Bool} {len cap : Nat} {lo hi mx : Option Value} {l h m : Int}
    (hl : (lo = none ∧ l = 0) ∨ ∃ k, lo = some (.int k l)) (hh : (hi = none ∧ h = len ∧ mx = none) ∨ ∃ k, hi = some (.int k h))
    (hm : (mx = none ∧ m = cap) ∨ ∃ k, mx = some (.int k m)) (h0 : 0 ≤ l) (h1 : l ≤ h) (h2 : h ≤ m) (h3 : m ≤ cap) (h4 : (len : Int) ≤ cap) :
    (Instr.sliceBounds isS len cap lo hi mx).run P w = .ok (l.toNat, h.toNat, m.toNat) w := by
  have b : ∀ (k : IntKind) (x : Int) (y : Nat) (c : BoundsCode), 0 ≤ x → x ≤ y → (Instr.sliceBound (.int k x) y c).run P w = .ok x.toNat w := by
    intro k x y c hx hy
    simp [Instr.sliceBound, asIntOf, hx, hy]
  unfold Instr.sliceBounds
  rcases hm with ⟨rfl, rfl⟩ | ⟨km, rfl⟩
  · rcases hh with ⟨rfl, rfl, _⟩ | ⟨kh, rfl⟩
    · rcases hl with ⟨rfl, rfl⟩ | ⟨kl, rfl⟩
      · simp
      · simp [b kl l len _ h0 (by omega)]
    · rcases hl with ⟨rfl, rfl⟩ | ⟨kl, rfl⟩
      · simp [b kh h cap _ (by omega) (by omega)]
      · simp [b kh h cap _ (by omega) (by omega), b kl l h.toNat _ h0 (by omega)]
  · rcases hh with ⟨_, _, h'⟩ | ⟨kh, rfl⟩
    · simp at h'
    · rcases hl with ⟨rfl, rfl⟩ | ⟨kl, rfl⟩
      · simp [b km m cap _ (by omega) (by omega), b kh h m.toNat _ (by omega) (by omega)]
      · simp [b km m cap _ (by omega) (by omega), b kh h m.toNat _ (by omega) (by omega), b kl l h.toNat _ h0 (by omega)]

/-- a slice of a slice -/
theorem RepT.sub {M : Mem} {a : Option Addr} {sz len cap : Nat} {nl : Bool} {es : List Dt} (h : RepT M (.slice a len cap) (.slc sz nl es)) {l h' m : Nat} (h1 : l ≤ h') (h2 : h' ≤ es.length) (h3 : h' ≤ m) (h4 : m ≤ cap)
    {size : Nat} (hs : size = sz ∨ nl = true) :
    RepT M (.slice (if m = l then a else a.map (·.add (l * size))) (h' - l) (m - l)) (.slc sz nl ((es.drop l).take (h' - l))) := by
  cases h with
  | nil =>
    have : l = 0 := by simp at h2; omega
    have : h' = 0 := by simp at h2; omega
    have : m = 0 := by omega
    subst_vars
    simpa using RepT.nil
  | slc val ha hl hc hsz hm hr =>
    rename_i a b o
    have e : size = sz := by rcases hs with h | h; exact h; cases h
    subst e
    have hlen : ((es.drop l).take (h' - l)).length = h' - l := by simp; omega
    have get : ∀ (i : Nat) (x : Dt), ((es.drop l).take (h' - l))[i]? = some x → es[l + i]? = some x ∧ i < h' - l := by
      intro i x hx
      rw [List.getElem?_take] at hx
      split at hx
      · rename_i hi; rw [List.getElem?_drop] at hx; exact ⟨hx, hi⟩
      · simp at hx
    by_cases hml : m = l
    · rw [if_pos hml]
      have : h' - l = 0 := by omega
      refine .slc (b := b) (o := o) (fun _ _ => undef) (fun h => by omega) (by omega) (by omega) (fun i x hx => ?_) (fun i j hi => by omega) (fun i j x c hx => ?_)
      · have := (get i x hx).2; omega
      · have := (get i x hx).2; omega
    · rw [if_neg hml]
      simp only [Option.map_some]
      refine .slc (b := b) (o := o + l * size) (fun i j => val (l + i) j) (fun h => by rw [ha (by omega), addr_add]) (by omega) (by omega) (fun i x hx => hsz _ x (get i x hx).1) (fun i j hi hj => ?_) (fun i j x c hx hc' => hr _ j x c (get i x hx).1 hc')
      have := hm (l + i) j (by omega) hj
      rw [Nat.add_mul] at this
      rw [← this]
      congr 1
      omega

theorem slice_sound {t : TypeId} {x d : D} {lo hi mx : Option D} {vx : Value} {vl vh vm : Option Value} (h : sliceD P t x lo hi mx = some d)
    (hx : Rep Γ vx x) (hl : RepO Γ vl lo) (hh : RepO Γ vh hi) (hm : RepO Γ vm mx) : ∃ v, (Instr.sliceAt t vx vl vh vm).run P w = .ok v w ∧ Rep Γ v d := by
  unfold sliceD at h
  split at h
  · simp at h
  rename_i hmh
  have hmh' : vh = none → vm = none := by
    intro e; subst e
    cases hi with
    | some d => exact hh.elim
    | none => cases mx with
      | some d => simp at hmh
      | none => cases vm with
        | none => rfl
        | some v => exact hm.elim
  split at h <;> try (simp at h; done)
  · rename_i s hu
    split at h <;> try (simp at h; done)
    rename_i hmx
    have hmn : mx = none := by simpa using hmx
    subst hmn
    have hvm : vm = none := by cases vm with | none => rfl | some v => exact hm.elim
    subst hvm
    split at h <;> try (simp at h; done)
    rename_i l h' e1 e2
    split at h <;> simp at h
    subst h
    rename_i hc
    obtain ⟨str, rfl, hs⟩ := hx.pv_inv.str_inv
    have hsz : str.size = s.length := by rw [← hs]; exact (Array.length_toList (xs := str.data)).symm
    have hb := run_sliceBounds (P := P) (w := w) (isS := false) (len := str.size) (cap := str.size) (m := (str.size : Int)) (optInt_rep e1 hl) (by
        rcases optInt_rep e2 hh with ⟨a, b⟩ | a
        · exact .inl ⟨a, by rw [b, hsz], rfl⟩
        · exact .inr a) (.inl ⟨rfl, rfl⟩) hc.1 hc.2.1 (by omega) (by omega) (by omega)
    refine ⟨.string (str.extract l.toNat h'.toNat), ?_, .pv (.str ?_)⟩
    · simp [Instr.sliceAt, run_und hu, Instr.slice, hb]
    · rw [← hs]
      simp [ByteArray.data_extract, Array.toList_extract, List.extract]
      congr 1
      omega
  · rename_i n e id off hu
    split at h <;> try (simp at h; done)
    rename_i l h' e1 e2
    split at h <;> try (simp at h; done)
    rename_i hc
    obtain ⟨hc0, hc1, hc2, hc3⟩ := hc
    obtain ⟨b, rfl, hb⟩ := hx.ptr_inv
    have hlo := optInt_rep e1 hl
    have hhi := optInt_rep e2 hh
    have key : ∀ m : Int, h' ≤ m → m ≤ n → ((vm = none ∧ m = n) ∨ ∃ k, vm = some (.int k m)) →
        ∃ v, (Instr.sliceAt t (.pointer (some ⟨b, off, none⟩)) vl vh vm).run P w = .ok v w ∧ Rep Γ v (.msl id (off + l.toNat * P.cellsOf e) (h' - l).toNat (P.cellsOf e)) := by
      intro m hm1 hm2 hmm
      have hbb := run_sliceBounds (P := P) (w := w) (isS := false) (len := n) (cap := n) (mx := vm) (m := m) hlo (by
        rcases hhi with ⟨a, c⟩ | a
        · exact .inl ⟨a, c, hmh' a⟩
        · exact .inr a) hmm hc0 hc1 hm1 (by omega) (by omega)
      refine ⟨.slice (some (if m.toNat = l.toNat then ⟨b, off, none⟩ else (⟨b, off, none⟩ : Addr).add (l.toNat * P.cellsOf e))) (h'.toNat - l.toNat) (m.toNat - l.toNat), ?_, ?_⟩
      · simp [Instr.sliceAt, run_und hu, Instr.sureAddr, hbb, run_size' hc3]
      · have e3 : (h' - l).toNat = h'.toNat - l.toNat := by omega
        rw [e3]
        refine .msl (by split <;> simp [addr_add]) (by omega) (fun hpos => ?_)
        rw [if_neg (by omega), addr_add]
        exact ⟨hb, rfl, rfl⟩
    split at h
    · simp at h; subst h
      have : vm = none := by cases vm with | none => rfl | some v => exact hm.elim
      exact key n hc2 (by omega) (.inl ⟨this, rfl⟩)
    · rename_i m
      split at h <;> try (simp at h; done)
      rename_i mm hmm
      split at h <;> simp at h
      subst h
      rename_i hc4
      cases vm with
      | none => exact hm.elim
      | some v =>
        obtain ⟨k, rfl⟩ := intOf_rep hmm hm
        exact key mm hc4.1 hc4.2 (.inr ⟨k, rfl⟩)
  · rename_i e id off n sz hu
    split at h <;> try (simp at h; done)
    rename_i l h' e1 e2
    split at h <;> try (simp at h; done)
    rename_i hc
    obtain ⟨hc0, hc1, hc2, hc3, hc4⟩ := hc
    subst hc3
    have hlo := optInt_rep e1 hl
    have hhi := optInt_rep e2 hh
    cases hx with
    | msl hsp hcap hp =>
      rename_i a cap
      have key : ∀ m : Int, h' ≤ m → m ≤ cap → ((vm = none ∧ m = cap) ∨ ∃ k, vm = some (.int k m)) →
          ∃ v, (Instr.sliceAt t (.slice (some a) n cap) vl vh vm).run P w = .ok v w ∧ Rep Γ v (.msl id (off + l.toNat * P.cellsOf e) (h' - l).toNat (P.cellsOf e)) := by
        intro m hm1 hm2 hmm
        have hbb := run_sliceBounds (P := P) (w := w) (isS := true) (len := n) (cap := cap) (mx := vm) (m := m) hlo (by
          rcases hhi with ⟨a, c⟩ | a
          · exact .inl ⟨a, c, hmh' a⟩
          · exact .inr a) hmm hc0 hc1 hm1 hm2 (by omega)
        refine ⟨.slice (if m.toNat = l.toNat then some a else (some a).map (·.add (l.toNat * P.cellsOf e))) (h'.toNat - l.toNat) (m.toNat - l.toNat), ?_, ?_⟩
        · simp [Instr.sliceAt, run_und hu, Instr.slice, hbb, run_size' hc4]
        · have e3 : (h' - l).toNat = h'.toNat - l.toNat := by omega
          rw [e3]
          by_cases hml : m.toNat = l.toNat
          · rw [if_pos hml]; exact .msl hsp (by omega) (fun hpos => by omega)
          · rw [if_neg hml]
            refine .msl (by obtain ⟨b, o, sp⟩ := a; simp only at hsp; subst hsp; simp [addr_add]) (by omega) (fun hpos => ?_)
            obtain ⟨h1, h2, h3⟩ := hp (by omega)
            obtain ⟨b, o, sp⟩ := a
            simp only at h1 h2 h3
            subst h2; subst h3
            simp [addr_add, h1]
      split at h
      · simp at h; subst h
        have : vm = none := by cases vm with | none => rfl | some v => exact hm.elim
        exact key cap (by omega) (by omega) (.inl ⟨this, rfl⟩)
      · split at h <;> try (simp at h; done)
        rename_i mm hmm
        split at h <;> simp at h
        subst h
        rename_i hc5
        cases vm with
        | none => exact hm.elim
        | some v =>
          obtain ⟨k, rfl⟩ := intOf_rep hmm hm
          exact key mm (by omega) (by omega) (.inr ⟨k, rfl⟩)
  · rename_i e hu hn
    split at h <;> try (simp at h; done)
    rename_i sz nl es hlo'
    split at h <;> try (simp at h; done)
    rename_i l h' e1 e2
    split at h <;> try (simp at h; done)
    rename_i hc
    obtain ⟨hc0, hc1, hc2, hc3, hc4⟩ := hc
    have hlo := optInt_rep e1 hl
    have hhi := optInt_rep e2 hh
    have hr := listOf_rep hx hlo'
    obtain ⟨a, cap, rfl, hcap⟩ := hr.slc_len
    have key : ∀ m : Int, h' ≤ m → m ≤ cap → ((vm = none ∧ m = cap) ∨ ∃ k, vm = some (.int k m)) →
        ∃ a', (Instr.sliceAt t (.slice a es.length cap) vl vh vm).run P w = .ok (.slice a' (h'.toNat - l.toNat) (m.toNat - l.toNat)) w ∧
          RepT Γ.M (.slice a' (h'.toNat - l.toNat) (m.toNat - l.toNat)) (.slc sz nl ((es.drop l.toNat).take (h' - l).toNat)) := by
      intro m hm1 hm2 hmm
      have hbb := run_sliceBounds (P := P) (w := w) (isS := true) (len := es.length) (cap := cap) (mx := vm) (m := m) hlo (by
        rcases hhi with ⟨a, c⟩ | a
        · exact .inl ⟨a, c, hmh' a⟩
        · exact .inr a) hmm hc0 hc1 hm1 hm2 (by omega)
      have e3 : (h' - l).toNat = h'.toNat - l.toNat := by omega
      rw [e3]
      refine ⟨_, ?_, hr.sub (l := l.toNat) (h' := h'.toNat) (m := m.toNat) (size := P.cellsOf e) (by omega) (by omega) (by omega) (by omega) (by rcases hc3 with h | h; exact .inl h.symm; exact .inr h)⟩
      simp [Instr.sliceAt, run_und hu, Instr.slice, hbb, run_size hc4]
    split at h
    · simp at h; subst h
      have : vm = none := by cases vm with | none => rfl | some v => exact hm.elim
      obtain ⟨a', h1, h2⟩ := key cap (by omega) (by omega) (.inl ⟨this, rfl⟩)
      exact ⟨_, h1, .pv h2⟩
    · split at h <;> try (simp at h; done)
      rename_i mm hmm
      split at h <;> simp at h
      subst h
      rename_i hc5
      subst hc5
      cases vm with
      | none => exact hm.elim
      | some v =>
        obtain ⟨k, rfl⟩ := intOf_rep hmm hm
        obtain ⟨a', h1, h2⟩ := key mm (by omega) (by omega) (.inr ⟨k, rfl⟩)
        exact ⟨_, h1, .exa h2⟩

end
end Go.DI

/-
  The store and the world go on together: a new object, an object that turns, a row that is constant, a slice that grows.
-/
namespace Go.DI
open Go

section
variable {P : Program} {w w' : World} {Γ Γ' : Cx} {s : St}

/-- all blocks but b are as they were (new ones may be there) -/
structure Only (w w' : World) (b : Nat) : Prop where
  os : w'.os = w.os
  tape : w'.tape = w.tape
  output : w'.output = w.output
  size : w.heap.size ≤ w'.heap.size
  blk : ∀ c, c < w.heap.size → c ≠ b → w'.heap[c]? = w.heap[c]?

theorem ORep.keep {b : Nat} {ob : Ob} (h : ORep Γ w b ob) (hw : w'.heap[b]? = w.heap[b]?) (hr : ∀ v d, Rep Γ v d → Rep Γ' v d)
    (hM : ∀ b o v, Γ.M b o = some v → Γ'.M b o = some v) (hρ : ∀ (i c : Nat), Γ.ρ[i]? = some c → Γ'.ρ[i]? = some c) : ORep Γ' w' b ob := by
  cases ob with
  | dead => trivial
  | cells cs t =>
    obtain ⟨arr, h1, h2, h3⟩ := h
    exact ⟨arr, by rw [hw, h1], h2.mono hr, h3⟩
  | map es clock =>
    obtain ⟨arr, h1, h2, h3⟩ := h
    exact ⟨arr, by rw [hw, h1], h2, fun i e d he hd => ⟨(h3 i e d he hd).1.mono hM, hr _ _ (h3 i e d he hd).2.1, (h3 i e d he hd).2.2⟩⟩
  | mapIter m since seen stepped =>
    obtain ⟨m', h1, h2⟩ := h
    refine ⟨m', by rw [hw, h1], ?_⟩
    cases m with
    | none => exact h2
    | some id => obtain ⟨c, h3, h4⟩ := h2; exact ⟨c, hρ _ _ h3, h4⟩
  | strIter str pos =>
    obtain ⟨str', h1, h2⟩ := h
    exact ⟨str', by rw [hw, h1], h2⟩
  | loop st pending ts params assign body =>
    obtain ⟨L, h1, h2, h3, h4, h5⟩ := h
    exact ⟨L, by rw [hw, h1], h2, h3, h4.mono hr, h5⟩

theorem cell_of_heap {a : Addr} (h : w'.heap[a.block]? = w.heap[a.block]?) : w'.cell? a = w.cell? a := by
  unfold World.cell?; rw [h]

theorem lt_of_cell {a : Addr} {v : Value} (h : w.cell? a = some v) : a.block < w.heap.size := by
  unfold World.cell? at h
  by_cases e : a.block < w.heap.size
  · exact e
  · rw [Array.getElem?_eq_none (by omega)] at h; simp at h

theorem nodup_inj {α : Type} : ∀ {l : List α} {i j : Nat} {a : α}, l.Nodup → l[i]? = some a → l[j]? = some a → i = j
  | [], i, _, _, _, h, _ => by simp at h
  | x :: l, 0, 0, _, _, _, _ => rfl
  | x :: l, 0, j + 1, a, hn, h, h' => by
    simp at h h'; subst h
    exact ((List.nodup_cons.1 hn).1 (List.mem_of_getElem? h')).elim
  | x :: l, i + 1, 0, a, hn, h, h' => by
    simp at h h'; subst h'
    exact ((List.nodup_cons.1 hn).1 (List.mem_of_getElem? h)).elim
  | x :: l, i + 1, j + 1, a, hn, h, h' => by
    exact congrArg (· + 1) (nodup_inj (l := l) (a := a) (List.nodup_cons.1 hn).2 (by simpa using h) (by simpa using h'))

theorem Sat.M_lt (hs : Sat Γ w s) {b o : Nat} {v : Value} (h : Γ.M b o = some v) : b < w.heap.size := lt_of_cell (hs.mem b o v h)

theorem Sat.ρ_lt (hs : Sat Γ w s) {i b : Nat} (h : Γ.ρ[i]? = some b) : b < w.heap.size := hs.lt b (List.mem_append.2 (.inl (List.mem_of_getElem? h)))
theorem Sat.β_lt (hs : Sat Γ w s) {k b c f : Nat} (h : Γ.β[k]? = some (b, c, f)) : b < w.heap.size :=
  hs.lt b (List.mem_append.2 (.inr (List.mem_map.2 ⟨(b, c, f), List.mem_of_getElem? h, rfl⟩)))
theorem Sat.ρ_ne_β (hs : Sat Γ w s) {i k b c f : Nat} (h : Γ.ρ[i]? = some b) (h' : Γ.β[k]? = some (b, c, f)) : False :=
  (List.nodup_append.1 hs.nodup).2.2 b (List.mem_of_getElem? h) b (List.mem_map.2 ⟨(b, c, f), List.mem_of_getElem? h', rfl⟩) rfl
theorem Sat.ρ_inj (hs : Sat Γ w s) {i j b : Nat} (h : Γ.ρ[i]? = some b) (h' : Γ.ρ[j]? = some b) : i = j := by
  have hn := (List.nodup_append.1 hs.nodup).1
  exact nodup_inj hn h h'
theorem Sat.β_inj (hs : Sat Γ w s) {i j b c f c' f' : Nat} (h : Γ.β[i]? = some (b, c, f)) (h' : Γ.β[j]? = some (b, c', f')) : i = j := by
  have hn := (List.nodup_append.1 hs.nodup).2.1
  have e1 : (Γ.β.map (·.1))[i]? = some b := by rw [List.getElem?_map, h]; rfl
  have e2 : (Γ.β.map (·.1))[j]? = some b := by rw [List.getElem?_map, h']; rfl
  exact nodup_inj hn e1 e2
theorem Sat.get_ρ (hs : Sat Γ w s) {i : Nat} {ob : Ob} (h : s.obs[i]? = some ob) : ∃ b, Γ.ρ[i]? = some b ∧ ORep Γ w b ob := by
  obtain ⟨hi, _⟩ := List.getElem?_eq_some_iff.1 h
  have hi' : i < Γ.ρ.length := by rw [hs.len]; exact hi
  exact ⟨Γ.ρ[i], List.getElem?_eq_getElem hi', hs.obs i ob _ h (List.getElem?_eq_getElem hi')⟩
theorem Sat.of_ρ (hs : Sat Γ w s) {i b : Nat} (h : Γ.ρ[i]? = some b) : ∃ ob, s.obs[i]? = some ob ∧ ORep Γ w b ob := by
  obtain ⟨hi, _⟩ := List.getElem?_eq_some_iff.1 h
  have hi' : i < s.obs.length := by rw [← hs.len]; exact hi
  exact ⟨s.obs[i], List.getElem?_eq_getElem hi', hs.obs i _ b (List.getElem?_eq_getElem hi') h⟩

/-- an object turns -/
theorem Sat.put (hs : Sat Γ w s) {id b : Nat} {ob : Ob} (hb : Γ.ρ[id]? = some b) (hw : Only w w' b) (ho : ORep Γ w' b ob) : Sat Γ w' (s.set id ob) ∧ Fwd Γ w Γ w' := by
  constructor
  · refine ⟨by simpa [St.set] using hs.len, hs.blen, hs.nodup, fun c hc => Nat.lt_of_lt_of_le (hs.lt c hc) hw.size, ?_, hs.apart, ?_, ?_⟩
    · intro c o v hv
      have hne : c ≠ b := by
        intro e; subst e
        have := hs.apart c (List.mem_of_getElem? hb) o
        rw [this] at hv; cases hv
      rw [cell_of_heap (w := w) (hw.blk c (hs.M_lt hv) hne)]
      exact hs.mem c o v hv
    · intro i ob' c h1 h2
      by_cases e : id = i
      · subst e
        rw [hb] at h2; cases h2
        simp only [St.set] at h1
        rw [List.getElem?_set_self (by rw [← hs.len]; exact (List.getElem?_eq_some_iff.1 hb).1)] at h1
        cases h1
        exact ho
      · simp only [St.set] at h1
        rw [List.getElem?_set_ne e] at h1
        have hne : c ≠ b := fun e' => e (hs.ρ_inj hb (e' ▸ h2))
        exact (hs.obs i ob' c h1 h2).keep (hw.blk c (hs.ρ_lt h2) hne) (fun _ _ h => h) (fun _ _ _ h => h) (fun _ _ h => h)
    · intro k bf c cap fill h1 h2
      have hne : c ≠ b := fun e => hs.ρ_ne_β hb (e ▸ h2)
      obtain ⟨a1, a2, a3, arr, fz, t0, a4, a5⟩ := hs.bufs k bf c cap fill h1 h2
      exact ⟨a1, a2, a3, arr, fz, t0, by rw [hw.blk c (hs.β_lt h2) hne, a4], a5⟩
  · refine ⟨hw.os, hw.tape, hw.output, hw.size, ?_, fun _ _ _ h => h, fun _ _ h => (h rfl).elim, fun _ _ h => h, fun _ h => .inl h, fun _ b c f h => ⟨b, c, f, h, Nat.le_refl _, fun _ => ⟨rfl, rfl⟩⟩, fun _ h => .inl h⟩
    intro c hc hn
    refine hw.blk c hc (fun e => hn ?_)
    rw [e]; exact List.mem_append.2 (.inl (List.mem_of_getElem? hb))

/-- nothing that is known turns -/
theorem Sat.same (hs : Sat Γ w s) (h1 : w'.os = w.os) (h2 : w'.tape = w.tape) (h3 : w'.output = w.output) (h4 : w.heap.size ≤ w'.heap.size)
    (h5 : ∀ c, c < w.heap.size → w'.heap[c]? = w.heap[c]?) : Sat Γ w' s ∧ Fwd Γ w Γ w' := by
  constructor
  · refine ⟨hs.len, hs.blen, hs.nodup, fun c hc => Nat.lt_of_lt_of_le (hs.lt c hc) h4, ?_, hs.apart, ?_, ?_⟩
    · intro c o v hv
      rw [cell_of_heap (w := w) (h5 c (hs.M_lt hv))]
      exact hs.mem c o v hv
    · intro i ob c e1 e2
      exact (hs.obs i ob c e1 e2).keep (h5 c (hs.ρ_lt e2)) (fun _ _ h => h) (fun _ _ _ h => h) (fun _ _ h => h)
    · intro k bf c cap fill e1 e2
      obtain ⟨a1, a2, a3, arr, fz, t0, a4, a5⟩ := hs.bufs k bf c cap fill e1 e2
      exact ⟨a1, a2, a3, arr, fz, t0, by rw [h5 c (hs.β_lt e2), a4], a5⟩
  · exact ⟨h1, h2, h3, h4, fun c hc _ => h5 c hc, fun _ _ _ h => h, fun _ _ h => (h rfl).elim, fun _ _ h => h, fun _ h => .inl h, fun _ b c f h => ⟨b, c, f, h, Nat.le_refl _, fun _ => ⟨rfl, rfl⟩⟩, fun _ h => .inl h⟩

theorem Sat.drew (hs : Sat Γ w s) : Sat Γ w.drew s ∧ Fwd Γ w Γ w.drew := hs.same rfl rfl rfl (Nat.le_refl _) fun _ _ => rfl

def Cx.addρ (Γ : Cx) (b : Nat) : Cx := { Γ with ρ := Γ.ρ ++ [b] }

theorem get_append_self {α : Type} (l : List α) (a : α) : (l ++ [a])[l.length]? = some a := by simp
theorem get_append_of {α : Type} {l : List α} {i : Nat} {a : α} (h : l[i]? = some a) (l' : List α) : (l ++ l')[i]? = some a := by
  rw [List.getElem?_append_left (List.getElem?_eq_some_iff.1 h).1]; exact h
theorem get_append_one {α : Type} {l : List α} {i : Nat} {a x : α} (h : (l ++ [x])[i]? = some a) : l[i]? = some a ∨ (i = l.length ∧ a = x) := by
  by_cases hi : i < l.length
  · rw [List.getElem?_append_left hi] at h; exact .inl h
  · rw [List.getElem?_append_right (by omega)] at h
    by_cases e : i - l.length = 0
    · rw [e] at h; simp at h; exact .inr ⟨by omega, h.symm⟩
    · rw [List.getElem?_eq_none (by simp; omega)] at h; cases h

theorem Rep.addρ {b : Nat} {v : Value} {d : D} (h : Rep Γ v d) : Rep (Γ.addρ b) v d :=
  Rep.mono (Γ := Γ) (Γ' := Γ.addρ b) (fun _ _ _ h => h) (fun _ _ h => get_append_of h _) (fun _ b c f h => ⟨b, c, f, h, Nat.le_refl _, fun _ => ⟨rfl, rfl⟩⟩) h

/-- a new object -/
theorem Sat.add (hs : Sat Γ w s) {o : Obj} {ob : Ob} (ho : ORep (Γ.addρ w.heap.size) (w.alloc o) w.heap.size ob) :
    Sat (Γ.addρ w.heap.size) (w.alloc o) (s.add ob) ∧ Fwd Γ w (Γ.addρ w.heap.size) (w.alloc o) := by
  have hk : ∀ c, c < w.heap.size → (w.alloc o).heap[c]? = w.heap[c]? := fun c hc => RowKit.Below.heap_alloc w o c hc
  constructor
  · refine ⟨by simp [Cx.addρ, St.add, hs.len], hs.blen, ?_, ?_, ?_, ?_, ?_, ?_⟩
    · have hn := List.nodup_append.1 hs.nodup
      simp only [Cx.addρ, List.append_assoc, List.singleton_append]
      refine List.nodup_append.2 ⟨hn.1, List.nodup_cons.2 ⟨fun hm => ?_, hn.2.1⟩, fun a ha b hb => ?_⟩
      · have := hs.lt _ (List.mem_append.2 (.inr hm)); omega
      · rcases List.mem_cons.1 hb with rfl | hb
        · have := hs.lt _ (List.mem_append.2 (.inl ha)); omega
        · exact hn.2.2 a ha b hb
    · intro c hc
      simp only [Cx.addρ, List.append_assoc, List.singleton_append, List.mem_append, List.mem_cons] at hc
      rw [World.size_alloc]
      rcases hc with hc | rfl | hc
      · have := hs.lt c (List.mem_append.2 (.inl hc)); omega
      · omega
      · have := hs.lt c (List.mem_append.2 (.inr hc)); omega
    · intro c o' v hv
      rw [cell_of_heap (w := w) (hk c (hs.M_lt hv))]
      exact hs.mem c o' v hv
    · intro c hc o'
      rcases List.mem_append.1 hc with hc | hc
      · exact hs.apart c hc o'
      · simp at hc; subst hc
        cases hv : Γ.M w.heap.size o' with
        | none => exact hv
        | some v => have := hs.M_lt hv; omega
    · intro i ob' c h1 h2
      simp only [St.add] at h1
      rcases get_append_one h1 with h1 | ⟨rfl, rfl⟩
      · have h2' : Γ.ρ[i]? = some c := by
          rcases get_append_one h2 with h2 | ⟨h2, _⟩
          · exact h2
          · have := (List.getElem?_eq_some_iff.1 h1).1; rw [← hs.len] at this; omega
        exact (hs.obs i ob' c h1 h2').keep (hk c (hs.ρ_lt h2')) (fun _ _ h => h.addρ) (fun _ _ _ h => h) (fun _ _ h => get_append_of h _)
      · rw [← hs.len] at h2
        have : c = w.heap.size := by have := get_append_self Γ.ρ w.heap.size; simp only [Cx.addρ] at h2; rw [this] at h2; cases h2; rfl
        subst this; exact ho
    · intro k bf c cap fill e1 e2
      obtain ⟨a1, a2, a3, arr, fz, t0, a4, a5⟩ := hs.bufs k bf c cap fill e1 e2
      exact ⟨a1, a2, a3, arr, fz, t0, by rw [hk c (hs.β_lt e2), a4], a5⟩
  · refine ⟨rfl, rfl, rfl, by simp, fun c hc _ => hk c hc, fun _ _ _ h => h, fun _ _ h => (h rfl).elim, fun _ _ h => get_append_of h _, ?_, fun _ b c f h => ⟨b, c, f, h, Nat.le_refl _, fun _ => ⟨rfl, rfl⟩⟩, fun _ h => .inl h⟩
    intro b hb
    rcases List.mem_append.1 hb with hb | hb
    · exact .inl hb
    · simp at hb; exact .inr (by omega)

/-- more is constant: cells of new blocks, or of blocks of growing slices -/
def Cx.withM (Γ : Cx) (M : Mem) : Cx := { Γ with M := M }

end
end Go.DI

/-
  New constant rows; slices that grow.
-/
namespace Go.DI
open Go

/-- the elements' cells in a row -/
def flat (es : List Dt) : List Dt := es.flatMap Dt.cells

def Fit (sz : Nat) (es : List Dt) : Prop := ∀ e ∈ es, e.cells.length = sz ∧ ∀ c ∈ e.cells, c.one = true

theorem fits_iff {sz : Nat} {e : Dt} : fits sz e = true ↔ e.cells.length = sz ∧ ∀ c ∈ e.cells, c.one = true := by
  unfold fits; simp

theorem flat_len {sz : Nat} : ∀ {es : List Dt}, Fit sz es → (flat es).length = es.length * sz
  | [], _ => by simp [flat]
  | e :: es, h => by
    have ih := flat_len (es := es) (fun x hx => h x (by simp [hx]))
    have := (h e (by simp)).1
    unfold flat at *
    simp [List.flatMap_cons, ih, this, Nat.add_mul, Nat.add_comm]

theorem flat_get {sz : Nat} : ∀ {es : List Dt}, Fit sz es → ∀ {i j : Nat} {e : Dt}, es[i]? = some e → j < sz → (flat es)[i * sz + j]? = e.cells[j]?
  | [], _, i, j, e, he, _ => by simp at he
  | x :: es, h, 0, j, e, he, hj => by
    simp at he; subst he
    have := (h x (by simp)).1
    simp only [flat, List.flatMap_cons, Nat.zero_mul, Nat.zero_add]
    rw [List.getElem?_append_left (by omega)]
  | x :: es, h, i + 1, j, e, he, hj => by
    have hx := (h x (by simp)).1
    have ih := flat_get (es := es) (fun y hy => h y (by simp [hy])) (i := i) (j := j) (e := e) (by simpa using he) hj
    simp only [flat, List.flatMap_cons] at ih ⊢
    rw [List.getElem?_append_right (by rw [hx, Nat.add_mul]; omega), ← ih, hx]
    congr 1
    rw [Nat.add_mul]; omega

theorem RepT.of_cells {M : Mem} {b o len cap sz : Nat} {es : List Dt} {vals : List Value} (hl : len = es.length) (hc : len ≤ cap) (hf : Fit sz es)
    (hM : ∀ i, i < es.length * sz → M b (o + i) = vals[i]?) (hr : RepL (RepT M) vals (flat es)) : RepT M (.slice (some ⟨b, o, none⟩) len cap) (.slc sz false es) := by
  have hlen : vals.length = es.length * sz := by rw [hr.1, flat_len hf]
  have lt : ∀ i j, i < es.length → j < sz → i * sz + j < es.length * sz := by
    intro i j hi hj
    have : (i + 1) * sz ≤ es.length * sz := Nat.mul_le_mul_right _ (by omega)
    rw [Nat.add_mul] at this; omega
  refine .slc (fun i j => vals.getD (i * sz + j) undef) (fun _ => rfl) hl hc (fun i e he => hf e (List.mem_of_getElem? he)) (fun i j hi hj => ?_) (fun i j e c he hcc => ?_)
  · have h := lt i j hi hj
    rw [hM _ h, List.getD_eq_getElem?_getD, List.getElem?_eq_getElem (by omega)]; rfl
  · have hi : i < es.length := (List.getElem?_eq_some_iff.1 he).1
    have hj : j < sz := by rw [← (hf e (List.mem_of_getElem? he)).1]; exact (List.getElem?_eq_some_iff.1 hcc).1
    have h := lt i j hi hj
    have hg := flat_get hf he hj
    rw [hcc] at hg
    refine hr.2 (i * sz + j) _ c ?_ hg
    rw [List.getD_eq_getElem?_getD, List.getElem?_eq_getElem (by omega)]; rfl

/-- the cells of what a slice holds -/
theorem RepT.to_cells {M : Mem} {a : Addr} {len cap sz : Nat} {es : List Dt} (h : RepT M (.slice (some a) len cap) (.slc sz false es)) :
    len = es.length ∧ len ≤ cap ∧ Fit sz es ∧ ∃ (b o : Nat) (vals : List Value), (0 < es.length → a = ⟨b, o, none⟩) ∧ RepL (RepT M) vals (flat es) ∧ ∀ i, i < es.length * sz → M b (o + i) = vals[i]? := by
  cases h with
  | slc val ha hl hc hsz hm hr =>
    rename_i b o
    have hf : Fit sz es := fun e he => by
      obtain ⟨i, hi⟩ := List.mem_iff_getElem?.1 he
      exact hsz i e hi
    by_cases hz : sz = 0
    · subst hz
      refine ⟨hl, hc, hf, b, o, [], ha, ⟨by rw [flat_len hf]; simp, fun i v d hv => by simp at hv⟩, fun i hi => by simp at hi⟩
    have hz : 0 < sz := Nat.pos_of_ne_zero hz
    have dm : ∀ i, i < es.length * sz → i / sz < es.length ∧ i % sz < sz ∧ i / sz * sz + i % sz = i := by
      intro i hi
      refine ⟨Nat.div_lt_of_lt_mul (by rw [Nat.mul_comm]; exact hi), Nat.mod_lt _ hz, by rw [Nat.mul_comm]; exact Nat.div_add_mod _ _⟩
    refine ⟨hl, hc, hf, b, o, (List.range (es.length * sz)).map (fun i => val (i / sz) (i % sz)), ha, ⟨by rw [flat_len hf]; simp, fun i v d hv hd => ?_⟩, fun i hi => ?_⟩
    · have hi : i < es.length * sz := by rw [← flat_len hf]; exact (List.getElem?_eq_some_iff.1 hd).1
      obtain ⟨h1, h2, h3⟩ := dm i hi
      have e : es[i / sz]? = some es[i / sz] := List.getElem?_eq_getElem h1
      have hg := flat_get hf e h2
      rw [h3, hd] at hg
      have := hr (i / sz) (i % sz) _ d e hg.symm
      simp [hi] at hv
      rw [← hv]; exact this
    · obtain ⟨h1, h2, h3⟩ := dm i hi
      have := hm (i / sz) (i % sz) h1 h2
      rw [h3] at this
      rw [this]; simp [hi]

/-- M, and the first cells of block n -/
def addM (M : Mem) (n : Nat) (arr : Array Value) (lim : Nat) : Mem := fun b o => if b = n then (if o < lim then arr[o]? else M b o) else M b o

section
variable {P : Program} {w w' : World} {Γ Γ' : Cx} {s : St}

theorem Rep.withM {M' : Mem} (hM : ∀ b o v, Γ.M b o = some v → M' b o = some v) {v : Value} {d : D} (h : Rep Γ v d) : Rep (Γ.withM M') v d :=
  Rep.mono (Γ := Γ) (Γ' := Γ.withM M') hM (fun _ _ h => h) (fun _ b c f h => ⟨b, c, f, h, Nat.le_refl _, fun _ => ⟨rfl, rfl⟩⟩) h

theorem addM_new (hs : Sat Γ w s) {arr : Array Value} {lim : Nat} : ∀ b o v, Γ.M b o = some v → addM Γ.M w.heap.size arr lim b o = some v := by
  intro b o v hv
  have := hs.M_lt hv
  unfold addM
  rw [if_neg (by omega)]; exact hv

theorem heap_alloc_lt (w : World) (o : Obj) {c : Nat} (hc : c < w.heap.size) : (w.alloc o).heap[c]? = w.heap[c]? := RowKit.Below.heap_alloc w o c hc
theorem heap_alloc_self (w : World) (o : Obj) : (w.alloc o).heap[w.heap.size]? = some o := by
  show (w.heap.push o)[w.heap.size]? = some o
  simp

theorem addM_mem (hs : Sat Γ w s) {arr : Array Value} {t : TypeId} {fz : Nat × Nat} {lim : Nat} :
    ∀ b o v, addM Γ.M w.heap.size arr lim b o = some v → (w.alloc (.cells arr t fz)).cell? ⟨b, o, none⟩ = some v := by
  intro b o v hv
  unfold addM at hv
  split at hv
  · rename_i e; subst e
    split at hv
    · simp only [World.cell?, heap_alloc_self]; simpa using hv
    · have := hs.M_lt hv; omega
  · have := hs.M_lt hv
    rw [cell_of_heap (w := w) (heap_alloc_lt w _ this)]
    exact hs.mem b o v hv

theorem addM_apart (hs : Sat Γ w s) {arr : Array Value} {lim : Nat} {b : Nat} (hb : b < w.heap.size) (o : Nat) : addM Γ.M w.heap.size arr lim b o = Γ.M b o := by
  unfold addM; rw [if_neg (by omega)]

/-- a new row that nobody will write -/
theorem Sat.const (hs : Sat Γ w s) {arr : Array Value} {t : TypeId} {fz : Nat × Nat} {lim : Nat} :
    Sat (Γ.withM (addM Γ.M w.heap.size arr lim)) (w.alloc (.cells arr t fz)) s ∧ Fwd Γ w (Γ.withM (addM Γ.M w.heap.size arr lim)) (w.alloc (.cells arr t fz)) := by
  have hM := addM_new hs (arr := arr) (lim := lim)
  constructor
  · refine ⟨hs.len, hs.blen, hs.nodup, fun c hc => by rw [World.size_alloc]; have := hs.lt c hc; omega, addM_mem hs, ?_, ?_, ?_⟩
    · intro b hb o
      show addM _ _ _ _ b o = none
      rw [addM_apart hs (hs.lt b (List.mem_append.2 (.inl hb)))]; exact hs.apart b hb o
    · intro i ob c h1 h2
      exact (hs.obs i ob c h1 h2).keep (heap_alloc_lt w _ (hs.ρ_lt h2)) (fun _ _ h => h.withM hM) hM (fun _ _ h => h)
    · intro k bf c cap fill e1 e2
      obtain ⟨a1, a2, a3, arr', fz', t0, a4, a5, a6, a7⟩ := hs.bufs k bf c cap fill e1 e2
      refine ⟨a1, a2, a3, arr', fz', t0, by rw [heap_alloc_lt w _ (hs.β_lt e2), a4], a5, a6, fun o ho => ?_⟩
      show addM _ _ _ _ c o = none
      rw [addM_apart hs (hs.β_lt e2)]; exact a7 o ho
  · refine ⟨rfl, rfl, rfl, by simp, fun c hc _ => heap_alloc_lt w _ hc, hM, fun b o hne => ?_, fun _ _ h => h, fun _ h => .inl h, fun _ b c f h => ⟨b, c, f, h, Nat.le_refl _, fun _ => ⟨rfl, rfl⟩⟩, fun _ h => .inl h⟩
    by_cases hb : b < w.heap.size
    · exact (hne (addM_apart hs hb o)).elim
    · exact .inl (by omega)

/-- a new row that grows -/
theorem Sat.newBuf (hs : Sat Γ w s) {arr : Array Value} {t : TypeId} {fz : Nat × Nat} {sz cap fill : Nat} (hsz : 0 < sz) (ha : arr.size = cap * sz) (hf : fill ≤ cap)
    (hz : ∀ o, o < arr.size → ¬(fz.1 ≤ o ∧ o < fz.2)) {Γ' : Cx} (hΓ : Γ' = ⟨addM Γ.M w.heap.size arr (fill * sz), Γ.ρ, Γ.β ++ [(w.heap.size, cap, fill)]⟩) :
    Sat Γ' (w.alloc (.cells arr t fz)) { s with bufs := s.bufs ++ [⟨sz, t, fill⟩] } ∧ Fwd Γ w Γ' (w.alloc (.cells arr t fz)) := by
  have hM := addM_new hs (arr := arr) (lim := fill * sz)
  subst hΓ
  have hrep : ∀ v d, Rep Γ v d → Rep ⟨addM Γ.M w.heap.size arr (fill * sz), Γ.ρ, Γ.β ++ [(w.heap.size, cap, fill)]⟩ v d := fun v d h =>
    Rep.mono (Γ := Γ) (Γ' := ⟨addM Γ.M w.heap.size arr (fill * sz), Γ.ρ, Γ.β ++ [(w.heap.size, cap, fill)]⟩) hM (fun _ _ h => h) (fun _ b c f h => ⟨b, c, f, get_append_of h _, Nat.le_refl _, fun _ => ⟨rfl, rfl⟩⟩) h
  constructor
  · refine ⟨hs.len, by simp [hs.blen], ?_, ?_, addM_mem hs, ?_, ?_, ?_⟩
    · simp only [List.map_append, List.map_cons, List.map_nil, ← List.append_assoc]
      refine List.nodup_append.2 ⟨hs.nodup, by simp, fun a ha b hb => ?_⟩
      simp at hb; subst hb
      have := hs.lt a ha; omega
    · intro c hc
      rw [World.size_alloc]
      simp only [List.map_append, List.map_cons, List.map_nil, ← List.append_assoc, List.mem_append, List.mem_singleton] at hc
      rcases hc with hc | rfl
      · have := hs.lt c (List.mem_append.2 hc); omega
      · omega
    · intro b hb o
      show addM _ _ _ _ b o = none
      rw [addM_apart hs (hs.lt b (List.mem_append.2 (.inl hb)))]; exact hs.apart b hb o
    · intro i ob c h1 h2
      exact (hs.obs i ob c h1 h2).keep (heap_alloc_lt w _ (hs.ρ_lt h2)) hrep hM (fun _ _ h => h)
    · intro k bf c cap' fill' e1 e2
      rcases get_append_one e1 with e1 | ⟨rfl, rfl⟩
      · have e2' : Γ.β[k]? = some (c, cap', fill') := by
          rcases get_append_one e2 with e2 | ⟨e2, _⟩
          · exact e2
          · have := (List.getElem?_eq_some_iff.1 e1).1; rw [← hs.blen] at this; omega
        obtain ⟨a1, a2, a3, arr', fz', t0, a4, a5, a6, a7⟩ := hs.bufs k bf c cap' fill' e1 e2'
        refine ⟨a1, a2, a3, arr', fz', t0, by rw [heap_alloc_lt w _ (hs.β_lt e2'), a4], a5, a6, fun o ho => ?_⟩
        show addM _ _ _ _ c o = none
        rw [addM_apart hs (hs.β_lt e2')]; exact a7 o ho
      · rw [← hs.blen] at e2
        have e3 : (c, cap', fill') = (w.heap.size, cap, fill) := by
          have := get_append_self Γ.β (w.heap.size, cap, fill)
          rw [this] at e2; injection e2 with e2; exact e2.symm
        simp only [Prod.mk.injEq] at e3
        obtain ⟨rfl, rfl, rfl⟩ := e3
        refine ⟨rfl, hf, hsz, arr, fz, _, heap_alloc_self w _, ha, hz, fun o ho => ?_⟩
        show addM _ _ _ _ _ o = none
        unfold addM
        rw [if_pos rfl, if_neg (by simpa using ho)]
        cases hv : Γ.M w.heap.size o with
        | none => rfl
        | some v => have := hs.M_lt hv; omega
  · refine ⟨rfl, rfl, rfl, by simp, fun c hc _ => heap_alloc_lt w _ hc, hM, fun b o hne => ?_, fun _ _ h => h, fun _ h => .inl h, fun _ b c f h => ⟨b, c, f, get_append_of h _, Nat.le_refl _, fun _ => ⟨rfl, rfl⟩⟩, fun b hb => ?_⟩
    · by_cases hb : b < w.heap.size
      · exact (hne (addM_apart hs hb o)).elim
      · exact .inl (by omega)
    · simp only [List.map_append, List.map_cons, List.map_nil, List.mem_append, List.mem_singleton] at hb
      rcases hb with hb | rfl
      · exact .inl hb
      · exact .inr (Nat.le_refl _)

theorem set_get {α : Type} {l : List α} {i j : Nat} {a x : α} (h : (l.set i a)[j]? = some x) : (j = i ∧ x = a ∧ i < l.length) ∨ (j ≠ i ∧ l[j]? = some x) := by
  rw [List.getElem?_set] at h
  by_cases e : i = j
  · subst e
    simp only [if_true] at h
    split at h
    · simp at h; exact .inl ⟨rfl, h.symm, by assumption⟩
    · simp at h
  · rw [if_neg e] at h; exact .inr ⟨fun e' => e e'.symm, h⟩

/-- a slice grows where it lies -/
theorem Sat.growIn (hs : Sat Γ w s) {k b cap fill fill' : Nat} {bf : Buf} (h1 : s.bufs[k]? = some bf) (h2 : Γ.β[k]? = some (b, cap, fill)) (hw : Only w w' b)
    {arr arr' : Array Value} {fz : Nat × Nat} {t1 : TypeId} (ho : w.heap[b]? = some (.cells arr t1 fz)) (hn : w'.heap[b]? = some (.cells arr' t1 fz)) (hsz : arr'.size = arr.size)
    (hkeep : ∀ o, o < fill * bf.sz → arr'[o]? = arr[o]?) (hle : fill < fill') (hcap : fill' ≤ cap)
    {Γ' : Cx} (hΓ : Γ' = ⟨addM Γ.M b arr' (fill' * bf.sz), Γ.ρ, Γ.β.set k (b, cap, fill')⟩) :
    Sat Γ' w' { s with bufs := s.bufs.set k { bf with fill := fill' } } ∧ Fwd Γ w Γ' w' := by
  obtain ⟨a1, a2, a3, arr0, fz0, t0, a4, a5, a6, a7⟩ := hs.bufs k bf b cap fill h1 h2
  rw [ho] at a4
  injection a4 with a4
  injection a4 with a4a a4b a4c
  subst a4a; subst a4b; subst a4c
  have hbl := hs.β_lt h2
  have hkl := (List.getElem?_eq_some_iff.1 h2).1
  have hM : ∀ c o v, Γ.M c o = some v → addM Γ.M b arr' (fill' * bf.sz) c o = some v := by
    intro c o v hv
    unfold addM
    split
    · rename_i e; subst e
      split
      · by_cases hlt : o < fill * bf.sz
        · rw [hkeep o hlt]
          have := hs.mem c o v hv
          simp only [World.cell?, ho] at this
          simpa using this
        · rw [a7 o (by omega)] at hv; cases hv
      · exact hv
    · exact hv
  subst hΓ
  have hβ : ∀ (k' b0 c0 f0 : Nat), Γ.β[k']? = some (b0, c0, f0) → ∃ b' c' f' : Nat, (Γ.β.set k (b, cap, fill'))[k']? = some (b', c', f') ∧ f0 ≤ f' ∧ (f0 = f' → b' = b0 ∧ c' = c0) := by
    intro k' b0 c0 f0 h
    by_cases e : k = k'
    · subst e
      rw [h2] at h; injection h with h; simp only [Prod.mk.injEq] at h; obtain ⟨rfl, rfl, rfl⟩ := h
      exact ⟨b, cap, fill', by rw [List.getElem?_set_self hkl], by omega, fun _ => ⟨rfl, rfl⟩⟩
    · exact ⟨b0, c0, f0, by rw [List.getElem?_set_ne e]; exact h, Nat.le_refl _, fun _ => ⟨rfl, rfl⟩⟩
  have hrep : ∀ v d, Rep Γ v d → Rep ⟨addM Γ.M b arr' (fill' * bf.sz), Γ.ρ, Γ.β.set k (b, cap, fill')⟩ v d := fun v d h =>
    Rep.mono (Γ := Γ) (Γ' := ⟨addM Γ.M b arr' (fill' * bf.sz), Γ.ρ, Γ.β.set k (b, cap, fill')⟩) hM (fun _ _ h => h) hβ h
  have hmap : (Γ.β.set k (b, cap, fill')).map (·.1) = Γ.β.map (·.1) := by
    apply List.ext_getElem?
    intro i
    rw [List.getElem?_map, List.getElem?_map, List.getElem?_set]
    by_cases e : k = i
    · subst e; rw [if_pos rfl, if_pos hkl, h2]; rfl
    · rw [if_neg e]
  constructor
  · refine ⟨hs.len, by simp [hs.blen], by simp only [hmap]; exact hs.nodup, fun c hc => by simp only [hmap] at hc; exact Nat.lt_of_lt_of_le (hs.lt c hc) hw.size, ?_, ?_, ?_, ?_⟩
    · intro c o v hv
      replace hv : addM Γ.M b arr' (fill' * bf.sz) c o = some v := hv
      unfold addM at hv
      split at hv
      · rename_i e; subst e
        split at hv
        · simp only [World.cell?, hn]; simpa using hv
        · rw [a7 o (Nat.le_trans (Nat.mul_le_mul_right _ (Nat.le_of_lt hle)) (by omega))] at hv; cases hv
      · rename_i e
        rw [cell_of_heap (w := w) (hw.blk c (hs.M_lt hv) e)]
        exact hs.mem c o v hv
    · intro c hc o
      show addM _ _ _ _ c o = none
      unfold addM
      have hne : c ≠ b := by
        intro e; subst e
        obtain ⟨i, hi⟩ := List.mem_iff_getElem?.1 hc
        exact hs.ρ_ne_β hi h2
      rw [if_neg hne]; exact hs.apart c hc o
    · intro i ob c e1 e2
      have hne : c ≠ b := fun e => hs.ρ_ne_β e2 (e ▸ h2)
      exact (hs.obs i ob c e1 e2).keep (hw.blk c (hs.ρ_lt e2) hne) hrep hM (fun _ _ h => h)
    · intro k' bf' c cap' f' e1 e2
      rcases set_get e2 with ⟨rfl, e3, _⟩ | ⟨hne, e3⟩
      · simp only [Prod.mk.injEq] at e3; obtain ⟨rfl, rfl, rfl⟩ := e3
        rw [List.getElem?_set_self (by rw [← hs.blen]; exact hkl)] at e1
        injection e1 with e1; subst e1
        refine ⟨rfl, hcap, a3, arr', fz, _, hn, by rw [hsz, a5], fun o ho => a6 o (by omega), fun o ho => ?_⟩
        show addM _ _ _ _ _ o = none
        unfold addM
        rw [if_pos rfl, if_neg (by simpa using ho)]
        exact a7 o (Nat.le_trans (Nat.mul_le_mul_right _ (Nat.le_of_lt hle)) ho)
      · rw [List.getElem?_set_ne (fun e => hne e.symm)] at e1
        have hcb : c ≠ b := fun e => hne (hs.β_inj e3 (e ▸ h2))
        obtain ⟨c1, c2, c3, arr2, fz2, t2, c4, c5, c6, c7⟩ := hs.bufs k' bf' c cap' f' e1 e3
        refine ⟨c1, c2, c3, arr2, fz2, t2, by rw [hw.blk c (hs.β_lt e3) hcb, c4], c5, c6, fun o ho => ?_⟩
        show addM _ _ _ _ c o = none
        unfold addM
        rw [if_neg hcb]; exact c7 o ho
  · refine ⟨hw.os, hw.tape, hw.output, hw.size, fun c hc hn' => hw.blk c hc (fun e => hn' ?_), hM, fun c o hne => ?_, fun _ _ h => h, fun _ h => .inl h, hβ, fun c hc => .inl (by simpa only [hmap] using hc)⟩
    · subst e; exact List.mem_append.2 (.inr (List.mem_map.2 ⟨(c, cap, fill), List.mem_of_getElem? h2, rfl⟩))
    · by_cases e : c = b
      · subst e; exact .inr (List.mem_map.2 ⟨(c, cap, fill), List.mem_of_getElem? h2, rfl⟩)
      · exact (hne (by show addM _ _ _ _ c o = _; unfold addM; rw [if_neg e])).elim

/-- a slice grows into a new row -/
theorem Sat.growNew (hs : Sat Γ w s) {k b cap fill fill' cap' : Nat} {bf : Buf} (h1 : s.bufs[k]? = some bf) (h2 : Γ.β[k]? = some (b, cap, fill))
    {arr : Array Value} {t1 : TypeId} (ha : arr.size = cap' * bf.sz) (hle : fill < fill') (hcap : fill' ≤ cap')
    {Γ' : Cx} (hΓ : Γ' = ⟨addM Γ.M w.heap.size arr (fill' * bf.sz), Γ.ρ, Γ.β.set k (w.heap.size, cap', fill')⟩) :
    Sat Γ' (w.alloc (.cells arr t1 (0, 0))) { s with bufs := s.bufs.set k { bf with fill := fill' } } ∧ Fwd Γ w Γ' (w.alloc (.cells arr t1 (0, 0))) := by
  obtain ⟨a1, a2, a3, arr0, fz0, t0, a4, a5, a6, a7⟩ := hs.bufs k bf b cap fill h1 h2
  have hkl := (List.getElem?_eq_some_iff.1 h2).1
  have hM := addM_new hs (arr := arr) (lim := fill' * bf.sz)
  subst hΓ
  have hβ : ∀ (k' b0 c0 f0 : Nat), Γ.β[k']? = some (b0, c0, f0) → ∃ b' c' f' : Nat, (Γ.β.set k (w.heap.size, cap', fill'))[k']? = some (b', c', f') ∧ f0 ≤ f' ∧ (f0 = f' → b' = b0 ∧ c' = c0) := by
    intro k' b0 c0 f0 h
    by_cases e : k = k'
    · subst e
      rw [h2] at h; injection h with h; simp only [Prod.mk.injEq] at h; obtain ⟨rfl, rfl, rfl⟩ := h
      exact ⟨w.heap.size, cap', fill', by rw [List.getElem?_set_self hkl], by omega, fun e => by omega⟩
    · exact ⟨b0, c0, f0, by rw [List.getElem?_set_ne e]; exact h, Nat.le_refl _, fun _ => ⟨rfl, rfl⟩⟩
  have hrep : ∀ v d, Rep Γ v d → Rep ⟨addM Γ.M w.heap.size arr (fill' * bf.sz), Γ.ρ, Γ.β.set k (w.heap.size, cap', fill')⟩ v d := fun v d h =>
    Rep.mono (Γ := Γ) (Γ' := ⟨addM Γ.M w.heap.size arr (fill' * bf.sz), Γ.ρ, Γ.β.set k (w.heap.size, cap', fill')⟩) hM (fun _ _ h => h) hβ h
  have hmap : (Γ.β.set k (w.heap.size, cap', fill')).map (·.1) = (Γ.β.map (·.1)).set k w.heap.size := by
    rw [List.map_set]
  have hmem : ∀ c, c ∈ (Γ.β.map (·.1)).set k w.heap.size → c ∈ Γ.β.map (·.1) ∨ c = w.heap.size := by
    intro c hc
    rcases List.mem_or_eq_of_mem_set hc with h | h
    · exact .inl h
    · exact .inr h
  constructor
  · refine ⟨hs.len, by simp [hs.blen], ?_, ?_, addM_mem hs, ?_, ?_, ?_⟩
    · simp only [hmap]
      have hn := List.nodup_append.1 hs.nodup
      refine List.nodup_append.2 ⟨hn.1, ?_, fun a ha' c hc => ?_⟩
      · have gen : ∀ (l : List Nat) (i x : Nat), l.Nodup → (∀ y ∈ l, y < x) → (l.set i x).Nodup := by
          intro l
          induction l with
          | nil => intro i x _ _; simp
          | cons y l ih =>
            intro i x hnd hlt
            rw [List.nodup_cons] at hnd
            cases i with
            | zero => rw [List.set_cons_zero, List.nodup_cons]; exact ⟨fun hm => by have := hlt x (by simp [hm]); omega, hnd.2⟩
            | succ i =>
              rw [List.set_cons_succ, List.nodup_cons]
              refine ⟨fun hm => ?_, ih i x hnd.2 (fun z hz => hlt z (by simp [hz]))⟩
              rcases List.mem_or_eq_of_mem_set hm with h | h
              · exact hnd.1 h
              · have := hlt y (by simp); omega
        exact gen _ _ _ hn.2.1 (fun y hy => hs.lt y (List.mem_append.2 (.inr hy)))
      · rcases hmem c hc with h | rfl
        · exact hn.2.2 a ha' c h
        · have := hs.lt a (List.mem_append.2 (.inl ha')); omega
    · intro c hc
      rw [World.size_alloc]
      simp only [hmap] at hc
      rcases List.mem_append.1 hc with hc | hc
      · have := hs.lt c (List.mem_append.2 (.inl hc)); omega
      · rcases hmem c hc with h | rfl
        · have := hs.lt c (List.mem_append.2 (.inr h)); omega
        · omega
    · intro c hc o
      show addM _ _ _ _ c o = none
      rw [addM_apart hs (hs.lt c (List.mem_append.2 (.inl hc)))]; exact hs.apart c hc o
    · intro i ob c e1 e2
      exact (hs.obs i ob c e1 e2).keep (heap_alloc_lt w _ (hs.ρ_lt e2)) hrep hM (fun _ _ h => h)
    · intro k' bf' c cap0 f' e1 e2
      rcases set_get e2 with ⟨rfl, e3, _⟩ | ⟨hne, e3⟩
      · simp only [Prod.mk.injEq] at e3; obtain ⟨rfl, rfl, rfl⟩ := e3
        rw [List.getElem?_set_self (by rw [← hs.blen]; exact hkl)] at e1
        injection e1 with e1; subst e1
        refine ⟨rfl, hcap, a3, arr, (0, 0), _, heap_alloc_self w _, ha, fun o _ h => by omega, fun o ho => ?_⟩
        show addM _ _ _ _ _ o = none
        unfold addM
        rw [if_pos rfl, if_neg (by simpa using ho)]
        cases hv : Γ.M w.heap.size o with
        | none => rfl
        | some v => have := hs.M_lt hv; omega
      · rw [List.getElem?_set_ne (fun e => hne e.symm)] at e1
        obtain ⟨c1, c2, c3, arr2, fz2, t2, c4, c5, c6, c7⟩ := hs.bufs k' bf' c cap0 f' e1 e3
        refine ⟨c1, c2, c3, arr2, fz2, t2, by rw [heap_alloc_lt w _ (hs.β_lt e3), c4], c5, c6, fun o ho => ?_⟩
        show addM _ _ _ _ c o = none
        rw [addM_apart hs (hs.β_lt e3)]; exact c7 o ho
  · refine ⟨rfl, rfl, rfl, by simp, fun c hc _ => heap_alloc_lt w _ hc, hM, fun b o hne => ?_, fun _ _ h => h, fun _ h => .inl h, hβ, fun c hc => ?_⟩
    · by_cases hb : b < w.heap.size
      · exact (hne (addM_apart hs hb o)).elim
      · exact .inl (by omega)
    · simp only [hmap] at hc
      rcases hmem c hc with h | rfl
      · exact .inl h
      · exact .inr (Nat.le_refl _)

end
end Go.DI

