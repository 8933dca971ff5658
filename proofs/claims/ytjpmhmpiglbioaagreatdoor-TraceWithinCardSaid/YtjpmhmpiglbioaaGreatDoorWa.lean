/- Part of the proof: an evaluator of the model's code over pure trees, and what it computes. No condition of its own. -/
import Derived.Calls
import Derived.Orders
import Derived.Below
import Derived.WalkKit
set_option linter.unusedSimpArgs false
set_option linter.unusedVariables false
namespace Go.Wn
open Go

/-- Pure values: trees. -/
inductive PV where
  | b (x : Bool)
  | i (k : IntKind) (n : Int)
  | s (x : List UInt8)
  | c (x : Value)
  | agg (cs : List PV)
  | lst (es : List PV)
  | nils
  | ref (cs : List PV) (off : Nat)
  | mp (ks vs : List PV)
  deriving Inhabited

/-- Values of the evaluator. -/
inductive V where
  | p (x : PV)
  | own (es : List PV)
  | agg (cs : List V)
  | tup (vs : List V)
  | lptr (b j : Nat)
  | ptr (b j : Nat)
  | aptr (b i j ver : Nat)
  | sl (b off len ver : Nat)
  | mp (b : Nat)
  | clo (f : Fn) (first cap : List V)
  | ifc (t : TypeId) (v : V)
  | und
  | nov
  deriving Inhabited

inductive Blk where
  | var (cs : List V)
  | arr (sz : Nat) (rs : List (List V))
  | map (ks : List PV) (vs : List V)
  deriving Inhabited

abbrev Heap := List Blk

structure Ctx where
  ro : Nat
  base : Nat

/-- memory: the call's own variables that nobody else sees, and the heap -/
structure Mem where
  lm : List (List V)
  h : Heap

/-- a frame: what was put into slots, the newest first; what the others hold -/
structure Fr where
  l : List (Nat × V)
  d : V

structure St where
  fr : Fr
  m : Mem

abbrev Handler := Ctx → FuncId → List V → Heap → Option (V × Heap)

/-- The program's tables, laid so that they are asked quickly. -/
structure Tab where
  und : TypeId → Option TypeDesc
  sz : TypeId → Option Nat
  bt : TypeId → Option Nat
  zero : TypeId → Option Value
  fn : FuncId → Option Func
  plain : TypeId → Bool

/-- What the evaluator is told beside the program. -/
structure Env where
  Q : Tab
  dok : FuncId → Nat → Bool
  md : FuncId → Nat
  tk : FuncId → List Nat
  nvs : FuncId → Nat
  kl : FuncId → Nat → Bool
  esc : FuncId → Nat → Bool
  nilF : FuncId → Bool
  farr : FuncId → Nat → Bool
  sum : FuncId → Option (Ctx → List V → Heap → Option (V × Heap))

def mapO {α β : Type} (f : α → Option β) : List α → Option (List β)
  | [] => some []
  | x :: xs => match f x, mapO f xs with
    | some y, some ys => some (y :: ys)
    | _, _ => none

def PV.cells : PV → List PV
  | .agg cs => cs
  | v => [v]

def V.isP : V → Option PV
  | .p x => some x
  | _ => none

/-- an aggregate; pure if all its cells are -/
def mkAgg (cs : List V) : V :=
  match mapO V.isP cs with
  | some ps => .p (.agg ps)
  | none => .agg cs

def V.cells : V → List V
  | .agg cs => cs
  | .p (.agg ps) => ps.map .p
  | v => [v]

/-- the cells of an aggregate -/
def V.aggCells : V → Option (List V)
  | .agg cs => some cs
  | .p (.agg ps) => some (ps.map .p)
  | _ => none

mutual
/-- a copy: what was the right to append stays where it was -/
def cp : V → V
  | .own es => .p (.lst es)
  | .agg cs => mkAgg (cpL cs)
  | .tup vs => .tup (cpL vs)
  | v => v
def cpL : List V → List V
  | [] => []
  | v :: vs => cp v :: cpL vs
end

mutual
def hasOwn : V → Bool
  | .own _ => true
  | .agg cs => hasOwnL cs
  | .tup vs => hasOwnL vs
  | _ => false
def hasOwnL : List V → Bool
  | [] => false
  | v :: vs => hasOwn v || hasOwnL vs
end

mutual
/-- all references are below n -/
def rb (n : Nat) : V → Bool
  | .agg cs => rbL n cs
  | .tup vs => rbL n vs
  | .ptr b _ => b < n
  | .aptr b _ _ _ => b < n
  | .sl b _ _ _ => b < n
  | .mp b => b < n
  | .clo _ f c => rbL n f && rbL n c
  | .ifc _ v => rb n v
  | _ => true
def rbL (n : Nat) : List V → Bool
  | [] => true
  | v :: vs => rb n v && rbL n vs
end

mutual
/-- holds no pointer to a variable of the call's own -/
def lf : V → Bool
  | .lptr _ _ => false
  | .agg cs => lfL cs
  | .tup vs => lfL vs
  | .clo _ f c => lfL f && lfL c
  | .ifc _ v => lf v
  | _ => true
def lfL : List V → Bool
  | [] => true
  | v :: vs => lf v && lfL vs
end

/-- what may stand in a cell -/
def V.cellOk : V → Bool
  | .p (.agg _) => false
  | .agg _ => false
  | .tup _ => false
  | .lptr _ _ => false
  | .und => false
  | .nov => false
  | .ifc _ _ => false
  | .clo _ a b => lfL a && lfL b
  | _ => true

def look (l : List (Nat × V)) (t : Nat) (d : V) : V :=
  match l with
  | [] => d
  | x :: xs => cond (Nat.beq x.1 t) x.2 (look xs t d)

def rd (fr : Fr) (t : Nat) : V := look fr.l t fr.d

def setF (fr : Fr) (d : Nat) (v : V) : Fr := ⟨(d, v) :: fr.l, fr.d⟩

def putF (fr : Fr) (d : Option Tmp) (v : V) : Fr :=
  match d with
  | some d => setF fr d v
  | none => fr

/-- a constant that fills one cell -/
def constCell (nf : Bool) : Value → V
  | .bool x => .p (.b x)
  | .int k n => .p (.i k n)
  | .string s => .p (.s s.data.toList)
  | .slice none 0 0 => if nf then .p .nils else .own []
  | .pointer none => .p (.c (.pointer none))
  | .map none => .p (.c (.map none))
  | .nilFunc => .p (.c .nilFunc)
  | .nilIface => .p (.c .nilIface)
  | _ => .und

def constV (nf : Bool) : Value → V
  | .agg cs => mkAgg (cs.toList.map (constCell nf))
  | .tuple vs => if vs.size = 0 then .nov else .und
  | v => constCell nf v

def argOf (nf : Bool) (fr : Fr) : Operand → V
  | .tmp t => cp (rd fr t)
  | .const v => constV nf v
  | .global _ => .und
  | .func f => .clo (.func f) [] []

def toB : V → Option Bool
  | .p (.b x) => some x
  | _ => none
def toI : V → Option (IntKind × Int)
  | .p (.i k n) => some (k, n)
  | _ => none
def toS : V → Option (List UInt8)
  | .p (.s x) => some x
  | _ => none

def aggT (Q : Tab) (t : TypeId) : Option Bool :=
  (Q.und t).map fun | .struct _ => true | .array _ _ => true | _ => false
def zeroCells (Q : Tab) (nf : Bool) (t : TypeId) : Option (List V) :=
  match Q.zero t with
  | some z => some (z.cells.toList.map (constCell nf))
  | none => none

/-- a value of a type, of its cells -/
def ofCells (Q : Tab) (t : TypeId) (cs : List V) : Option V :=
  match aggT Q t with
  | some true => some (mkAgg cs)
  | some false => match cs with
    | [v] => some v
    | _ => none
  | none => none

def getCells (cs : List V) (j n : Nat) : Option (List V) := if j + n ≤ cs.length then some ((cs.drop j).take n) else none
def setCells (cs : List V) (j : Nat) (vs : List V) : List V := cs.take j ++ vs ++ cs.drop (j + vs.length)

/-- n cells at an address -/
def ld (m : Mem) (a : V) (n : Nat) : Option (List V) :=
  match a with
  | .lptr b j => match m.lm[b]? with
    | some cs => getCells cs j n
    | none => none
  | .ptr b j => match m.h[b]? with
    | some (.var cs) => getCells cs j n
    | _ => none
  | .aptr b i j ver => match m.h[b]? with
    | some (.arr _ rs) => if rs.length = ver then match rs[i]? with
        | some cs => getCells cs j n
        | none => none
      else none
    | _ => none
  | .p (.ref cs off) => if off + n ≤ cs.length then some (((cs.drop off).take n).map V.p) else none
  | _ => none

/-- the same place, without the right to append -/
def unown (m : Mem) (a : V) (n : Nat) : Mem :=
  match a with
  | .lptr b j => match m.lm[b]? with
    | some cs => { m with lm := m.lm.set b (setCells cs j (cpL ((cs.drop j).take n))) }
    | none => m
  | .ptr b j => match m.h[b]? with
    | some (.var cs) => { m with h := m.h.set b (.var (setCells cs j (cpL ((cs.drop j).take n)))) }
    | _ => m
  | .aptr b i j _ => match m.h[b]? with
    | some (.arr sz rs) => match rs[i]? with
      | some cs => { m with h := m.h.set b (.arr sz (rs.set i (setCells cs j (cpL ((cs.drop j).take n))))) }
      | none => m
    | _ => m
  | _ => m

/-- may cells be written into block b? -/
def mayPut (K : Ctx) (b : Nat) (vs : List V) : Bool := K.ro ≤ b && (K.base ≤ b || rbL 0 vs) && vs.all V.cellOk

def stv (K : Ctx) (m : Mem) (a : V) (vs : List V) : Option Mem :=
  match a with
  | .lptr b j => match m.lm[b]? with
    | some cs => if j + vs.length ≤ cs.length && vs.all V.cellOk then some { m with lm := m.lm.set b (setCells cs j vs) } else none
    | none => none
  | .ptr b j => match m.h[b]? with
    | some (.var cs) => if j + vs.length ≤ cs.length && mayPut K b vs then some { m with h := m.h.set b (.var (setCells cs j vs)) } else none
    | _ => none
  | .aptr b i j ver => match m.h[b]? with
    | some (.arr sz rs) => if rs.length = ver && mayPut K b vs then
        match rs[i]? with
        | some cs => if j + vs.length ≤ cs.length then some { m with h := m.h.set b (.arr sz (rs.set i (setCells cs j vs))) } else none
        | none => none
      else none
    | _ => none
  | _ => none

def fieldOf (Q : Tab) (t : TypeId) (f : Nat) : Option (Nat × TypeId) :=
  match Q.und t with
  | some (.struct fs) => match fs[f]? with
    | some x => some (x.offset, x.type)
    | none => none
  | _ => none

def addOff (a : V) (n : Nat) : Option V :=
  match a with
  | .lptr b j => some (.lptr b (j + n))
  | .ptr b j => some (.ptr b (j + n))
  | .aptr b i j ver => some (.aptr b i (j + n) ver)
  | .p (.ref cs off) => some (.p (.ref cs (off + n)))
  | _ => none

/-- the rows of heap block b, if it is an array: their size and number -/
def shp (h : Heap) (b : Nat) : Option (Nat × Nat) :=
  match h[b]? with
  | some (.arr sz rs) => some (sz, rs.length)
  | _ => none

def natIx (v : V) (len : Nat) : Option Nat :=
  match toI v with
  | some (_, n) => if 0 ≤ n ∧ n < len then some n.toNat else none
  | none => none

def ixAddr (Q : Tab) (h : Heap) (t : TypeId) (x ix : V) : Option V :=
  match Q.und t with
  | some (.array len e) => (Q.sz e).bind fun sz => (natIx ix len).bind fun i => addOff x (i * sz)
  | some (.slice e) => (Q.sz e).bind fun sz => match x with
    | .p (.lst es) | .own es => (natIx ix es.length).bind fun i => match es[i]? with
      | some y => if y.cells.length = sz then some (.p (.ref y.cells 0)) else none
      | none => none
    | .sl b off len ver => (natIx ix len).bind fun i => match h[b]? with
      | some (.arr s rs) => if rs.length = ver && s = sz && off + len ≤ ver then some (.aptr b (off + i) 0 ver) else none
      | _ => none
    | _ => none
  | _ => none

def ixVal (Q : Tab) (t : TypeId) (x ix : V) : Option V :=
  match Q.und t, x with
  | some (.array len e), x => (Q.sz e).bind fun sz => (natIx ix len).bind fun i => (x.aggCells).bind fun xs => (getCells xs (i * sz) sz).bind fun cs => ofCells Q e (cpL cs)
  | some .string, .p (.s l) => (natIx ix l.length).bind fun i => (l[i]?).map fun c => .p (.i .u8 c.toNat)
  | _, _ => none

/-- fills parts into cells: each part's place and size -/
def fillV (place : Nat → Option (Nat × Nat)) (cells : List V) : List (Nat × V) → Option (List V)
  | [] => some cells
  | (i, v) :: rest => match place i with
    | none => none
    | some (off, size) => if v.cells.length = size ∧ off + size ≤ cells.length ∧ v.cells.all V.cellOk then fillV place (setCells cells off v.cells) rest else none

def placeS (Q : Tab) (fs : Array Field) (i : Nat) : Option (Nat × Nat) :=
  match fs[i]? with
  | some f => (Q.sz f.type).map fun n => (f.offset, n)
  | none => none

def buildV (Q : Tab) (nf : Bool) (t : TypeId) (parts : List (Nat × V)) : Option V :=
  (zeroCells Q nf t).bind fun z => match Q.und t with
  | some (.struct fs) => if fs.all (fun f => (Q.sz f.type).isSome) then (fillV (placeS Q fs) z parts).map mkAgg else none
  | some (.array _ e) => (Q.sz e).bind fun sz => (fillV (fun i => some (i * sz, sz)) z parts).map mkAgg
  | _ => none

def cellEl : V → Option PV
  | .p x => some x
  | .own es => some (.lst es)
  | _ => none

/-- one element, pure -/
def pureEl (v : V) : Option PV :=
  match v with
  | .agg cs => (mapO cellEl cs).map .agg
  | v => cellEl v

def rowsOf (es : List PV) : List (List V) := es.map fun e => e.cells.map V.p
def newArr (h : Heap) (sz : Nat) (rs : List (List V)) : V × Heap := (.sl h.length 0 rs.length rs.length, h ++ [.arr sz rs])

def PV.cellOk : PV → Bool
  | .agg _ => false
  | _ => true
def elOk (sz : Nat) (e : PV) : Bool := e.cells.length == sz && e.cells.all PV.cellOk
def rowOk (sz : Nat) (r : List V) : Bool := r.length == sz && r.all V.cellOk

def listOf (Q : Tab) (h : Heap) (t : TypeId) (n : Nat) (parts : List (Nat × V)) : Option (V × Heap) :=
  match Q.und t with
  | some (.slice e) => (Q.sz e).bind fun sz => (Q.zero e).bind fun _ =>
    if parts.map (·.1) = List.range n ∧ 0 < sz ∧ n * sz ≤ 2 ^ 24 then
      match mapO pureEl (parts.map (·.2)) with
      | some es => if es.all (elOk sz) then some (.own es, h) else none
      | none => if (parts.map (·.2)).all (fun v => rowOk sz v.cells) then some (newArr h sz (parts.map (·.2.cells))) else none
    else none
  | _ => none

/-- a row of cells as one pure element -/
def rowEl (r : List V) : Option PV :=
  match mapO V.isP r with
  | some [x] => if x.cellOk then some x else none
  | some xs => some (.agg xs)
  | none => none

/-- the elements of what is appended -/
def pureList (h : Heap) (v : V) : Option (List PV) :=
  match v with
  | .p (.lst es) => some es
  | .own es => some es
  | .p .nils => some []
  | .p (.s l) => some (l.map fun c => .i .u8 c.toNat)
  | .sl b off len ver => match h[b]? with
    | some (.arr _ rs) => if rs.length = ver ∧ off + len ≤ ver then mapO rowEl ((rs.drop off).take len) else none
    | _ => none
  | _ => none

def rowsIn (h : Heap) (v : V) : Option (List (List V)) :=
  match v with
  | .sl b off len ver => match h[b]? with
    | some (.arr _ rs) => if rs.length = ver ∧ off + len ≤ ver then some (((rs.drop off).take len).map cpL) else none
    | _ => none
  | v => (pureList h v).map rowsOf

def fits (n by_ : Nat) : Bool := 0 < by_ && n * by_ ≤ 2 ^ 46 && by_ ≤ 2 ^ 20

def headOk (es : List PV) (sz : Nat) : Bool :=
  match es with
  | [] => true
  | e :: _ => e.cells.length == sz

def srcT (Q : Tab) (t : TypeId) : Bool :=
  match Q.und t with
  | some (.slice _) | some .string => true
  | _ => false

def appendV (Q : Tab) (K : Ctx) (h : Heap) (farr : Bool) (t : TypeId) (s x : V) : Option (V × Heap) :=
  match Q.und t with
  | some (.slice e) => (Q.sz e).bind fun sz => (Q.bt e).bind fun by_ => (Q.zero e).bind fun z => if sz = 0 ∨ z.cells.size ≠ sz then none else
    match s with
    | .own es => match (if farr then none else pureList h x) with
      | some xs => if fits (es.length + xs.length) by_ && headOk es sz && xs.all (elOk sz) then some (.own (es ++ xs), h) else none
      | none => if es.isEmpty then (rowsIn h x).bind fun rs => if fits rs.length by_ && rs.all (rowOk sz) && !rs.isEmpty then some (newArr h sz rs) else none else none
    | .p .nils => match (if farr then none else pureList h x) with
      | some xs => if fits xs.length by_ && xs.all (elOk sz) then (if xs.isEmpty then some (.p .nils, h) else some (.own xs, h)) else none
      | none => (rowsIn h x).bind fun rs => if fits rs.length by_ && rs.all (rowOk sz) && !rs.isEmpty then some (newArr h sz rs) else none
    | .sl b off len ver => (rowsIn h x).bind fun rs => match h[b]? with
      | some (.arr s0 r0) =>
        if r0.length = ver && s0 = sz && off = 0 && len ≤ ver && fits (ver + rs.length) by_ && rs.all (rowOk sz) && mayPut K b rs.flatten then
          (let r1 := r0.take len ++ rs ++ r0.drop (len + rs.length)
           some (.sl b 0 (len + rs.length) r1.length, h.set b (.arr sz r1)))
        else none
      | _ => none
    | _ => none
  | _ => none

def lenV (h : Heap) (v : V) : Option Nat :=
  match v with
  | .p (.lst es) => some es.length
  | .own es => some es.length
  | .p .nils => some 0
  | .p (.s l) => some l.length
  | .sl _ _ len _ => some len
  | .mp b => match h[b]? with
    | some (.map ks _) => some ks.length
    | _ => none
  | .p (.mp ks _) => some ks.length
  | .p (.c (.map none)) => some 0
  | _ => none


mutual
def PV.beq : PV → PV → Bool
  | .b x, .b y => x == y
  | .i k x, .i k' y => k == k' && x == y
  | .s x, .s y => x == y
  | .agg x, .agg y => PV.beqL x y
  | .lst x, .lst y => PV.beqL x y
  | .nils, .nils => true
  | .ref x m, .ref y n => m == n && PV.beqL x y
  | .mp x y, .mp z w => PV.beqL x z && PV.beqL y w
  | .c (.pointer none), .c (.pointer none) => true
  | .c (.map none), .c (.map none) => true
  | .c .nilFunc, .c .nilFunc => true
  | .c .nilIface, .c .nilIface => true
  | _, _ => false
def PV.beqL : List PV → List PV → Bool
  | [], [] => true
  | x :: xs, y :: ys => PV.beq x y && PV.beqL xs ys
  | _, _ => false
end

/-- a type of one cell that holds no reference -/
def scalT (Q : Tab) (t : TypeId) : Bool :=
  match Q.und t with
  | some .bool | some (.int _) | some .string => true
  | _ => false

/-- '==' at a type of one cell -/
def eqS (Q : Tab) (t : TypeId) (x y : V) : Option Bool :=
  match Q.und t with
    | some .bool => (toB x).bind fun a => (toB y).bind fun b => some (a == b)
    | some (.int _) => (toI x).bind fun a => (toI y).bind fun b => if a.1 = b.1 then some (a.2 == b.2) else none
    | some .string => (toS x).bind fun a => (toS y).bind fun b => some (a == b)
    | some (.pointer _) => match x, y with
      | .p (.c (.pointer none)), .p (.c (.pointer none)) => some true
      | .p (.c (.pointer none)), .lptr _ _ | .p (.c (.pointer none)), .ptr _ _ | .p (.c (.pointer none)), .aptr _ _ _ _ | .p (.c (.pointer none)), .p (.ref _ _) => some false
      | .lptr _ _, .p (.c (.pointer none)) | .ptr _ _, .p (.c (.pointer none)) | .aptr _ _ _ _, .p (.c (.pointer none)) | .p (.ref _ _), .p (.c (.pointer none)) => some false
      | _, _ => none
    | some (.slice _) => match x, y with
      | .p .nils, .p .nils => some true
      | .p (.lst (_ :: _)), .p .nils => some false
      | .sl _ _ _ _, .p .nils => some false
      | _, _ => none
    | some (.map _ _) => match x, y with
      | .p (.c (.map none)), .p (.c (.map none)) => some true
      | .mp _, .p (.c (.map none)) | .p (.mp _ _), .p (.c (.map none)) => some false
      | _, _ => none
    | some (.func _ _ _) => match x, y with
      | .p (.c .nilFunc), .p (.c .nilFunc) => some true
      | .clo _ _ _, .p (.c .nilFunc) => some false
      | _, _ => none
    | _ => none

/-- the parts of one cell, in order -/
def eqPs (Q : Tab) (xs ys : List V) : List (Nat × TypeId) → Option Bool
  | [] => some true
  | (o, t) :: rest => if scalT Q t then (xs[o]?).bind fun a => (ys[o]?).bind fun b => (eqS Q t a b).bind fun r => if r then eqPs Q xs ys rest else some false else none

/-- '==' at a type -/
def eqD (Q : Tab) (t : TypeId) (x y : V) : Option Bool :=
  match Q.und t with
    | some (.struct fs) => if Q.plain t && fs.all (fun f => f.name != "_") then match x, y with
      | .p (.agg xs), .p (.agg ys) => eqPs Q (xs.map V.p) (ys.map V.p) (fs.toList.map fun f => (f.offset, f.type))
      | _, _ => none else none
    | some (.array n e) => if Q.plain t && Q.sz e == some 1 then match x, y with
      | .p (.agg xs), .p (.agg ys) => eqPs Q (xs.map V.p) (ys.map V.p) ((List.range n).map fun i => (i, e))
      | _, _ => none else none
    | _ => eqS Q t x y

def intBin (op : BinOp) (k : IntKind) (a b : Int) : Option V :=
  match op with
  | .add => some (.p (.i k (k.wrap (a + b))))
  | .sub => some (.p (.i k (k.wrap (a - b))))
  | .mul => some (.p (.i k (k.wrap (a * b))))
  | .quo => if b = 0 then none else some (.p (.i k (k.wrap (a.tdiv b))))
  | .rem => if b = 0 then none else some (.p (.i k (a.tmod b)))
  | .and => some (.p (.i k (k.wrap ((BitVec.ofInt k.bits a) &&& (BitVec.ofInt k.bits b)).toNat)))
  | .or => some (.p (.i k (k.wrap ((BitVec.ofInt k.bits a) ||| (BitVec.ofInt k.bits b)).toNat)))
  | .xor => some (.p (.i k (k.wrap ((BitVec.ofInt k.bits a) ^^^ (BitVec.ofInt k.bits b)).toNat)))
  | .andNot => some (.p (.i k (k.wrap ((BitVec.ofInt k.bits a) &&& ~~~(BitVec.ofInt k.bits b)).toNat)))
  | .eql => some (.p (.b (a == b)))
  | .neq => some (.p (.b (a != b)))
  | .lss => some (.p (.b (a < b)))
  | .leq => some (.p (.b (a ≤ b)))
  | .gtr => some (.p (.b (a > b)))
  | .geq => some (.p (.b (a ≥ b)))
  | _ => none

def strBin (op : BinOp) (a b : List UInt8) : Option V :=
  match op with
  | .add => if a.length + b.length ≤ 2 ^ 62 then some (.p (.s (a ++ b))) else none
  | .eql => some (.p (.b (a == b)))
  | .neq => some (.p (.b (!(a == b))))
  | .lss => some (.p (.b (Op.bytesLess a b)))
  | .leq => some (.p (.b (Op.bytesLess a b || a == b)))
  | .gtr => some (.p (.b (!(Op.bytesLess a b || a == b))))
  | .geq => some (.p (.b (!(Op.bytesLess a b))))
  | _ => none

def binV (Q : Tab) (op : BinOp) (t : TypeId) (x y : V) : Option V :=
  match x, y with
  | .p (.i k a), .p (.i k' b) => match op with
    | .shl => if b < 0 then none else some (.p (.i k (k.wrap (a * 2 ^ (min b.toNat k.bits)))))
    | .shr => if b < 0 then none else some (.p (.i k (a.fdiv (2 ^ (min b.toNat k.bits)))))
    | op => if k = k' then intBin op k a b else none
  | .p (.s a), .p (.s b) => strBin op a b
  | x, y => match op with
    | .eql => (eqD Q t x y).map fun r => .p (.b r)
    | .neq => (eqD Q t x y).map fun r => .p (.b (!r))
    | _ => none

def unV (op : UnOp) (x : V) : Option V :=
  match op, x with
  | .not, .p (.b a) => some (.p (.b (!a)))
  | .neg, .p (.i k n) => some (.p (.i k (k.wrap (0 - n))))
  | _, _ => none

def convV (Q : Tab) (src dst : TypeId) (x : V) : Option V :=
  match Q.und src, Q.und dst, x with
  | some _, some (.int k), .p (.i _ n) => some (.p (.i k (k.wrap n)))
  | some _, some .string, .p (.s l) => some (.p (.s l))
  | _, _, _ => none

/-- bounds of a cut -/
def cutIx (v : Option V) (d y : Nat) : Option Nat :=
  match v with
  | none => some d
  | some v => match toI v with
    | some (_, n) => if 0 ≤ n ∧ n ≤ y then some n.toNat else none
    | none => none

def sliceV (Q : Tab) (h : Heap) (t : TypeId) (x : V) (lo hi mx : Option V) : Option V :=
  match Q.und t with
  | some .string => match mx with
    | some _ => none
    | none => (toS x).bind fun l => (cutIx hi l.length l.length).bind fun h => (cutIx lo 0 h).bind fun a => some (.p (.s ((l.take h).drop a)))
  | some (.slice e) => (Q.sz e).bind fun sz => match mx with
    | none => match x with
      | .p (.lst es) => if headOk es sz then (cutIx hi es.length es.length).bind fun h => (cutIx lo 0 h).bind fun a => some (.p (.lst ((es.take h).drop a))) else none
      | .p .nils => (cutIx hi 0 0).bind fun h => (cutIx lo 0 h).bind fun _ => some (.p .nils)
      | .sl b off len ver => match shp h b with
        | some (s, _) => if s = sz then (cutIx hi len len).bind fun h => (cutIx lo 0 h).bind fun a => some (.sl b (off + a) (h - a) ver) else none
        | none => none
      | _ => none
    | some mx => match x, hi with
      | .p (.lst _), some hi => (cutIx (some mx) 0 0).bind fun m => (cutIx (some hi) 0 m).bind fun h => (cutIx lo 0 h).bind fun _ => some (.own [])
      | .sl _ _ _ _, some hi => (cutIx (some mx) 0 0).bind fun m => (cutIx (some hi) 0 m).bind fun h => (cutIx lo 0 h).bind fun _ => some (.own [])
      | _, _ => none
  | _ => none

def makeArr (Q : Tab) (nf : Bool) (h : Heap) (t : TypeId) (l c : V) : Option (V × Heap) :=
  match Q.und t with
  | some (.slice e) => (Q.sz e).bind fun sz => (Q.bt e).bind fun by_ => (zeroCells Q nf e).bind fun z => (toI l).bind fun n => (toI c).bind fun m =>
    if n.2 = m.2 ∧ 0 ≤ n.2 ∧ 0 < sz ∧ fits n.2.toNat by_ ∧ z.length = sz ∧ z.all V.cellOk then some (newArr h sz (List.replicate n.2.toNat z)) else none
  | _ => none

/-- where a key stands -/
def findK (Q : Tab) (kt : TypeId) (k : PV) : List PV → Nat → Option (Option Nat)
  | [], _ => some none
  | x :: xs, i => match eqD Q kt (.p k) (.p x) with
    | some true => some (some i)
    | some false => findK Q kt k xs (i + 1)
    | none => none

/-- bools, numbers, strings, and rows of them -/
def scal1 : PV → Bool
  | .b _ | .i _ _ | .s _ => true
  | _ => false
def flat : PV → Bool
  | .agg cs => cs.all scal1
  | x => scal1 x
def keyFits (Q : Tab) (kt : TypeId) (k : PV) : Bool :=
  match Q.und kt with
  | some .bool | some (.int _) | some .string => true
  | some (.struct fs) => match k with
    | .agg cs => fs.all fun f => scalT Q f.type && f.offset < cs.length && f.name != "_"
    | _ => false
  | some (.array n e) => match k with
    | .agg cs => scalT Q e && Q.sz e == some 1 && n ≤ cs.length
    | _ => false
  | _ => false
def keyOf (Q : Tab) (kt : TypeId) (v : V) : Option PV := (v.isP).bind fun k => if flat k && keyFits Q kt k then some k else none

def mapIn (h : Heap) (m : V) : Option (List PV × List V) :=
  match m with
  | .mp b => match h[b]? with
    | some (.map ks vs) => some (ks, vs)
    | _ => none
  | .p (.mp ks vs) => some (ks, vs.map V.p)
  | .p (.c (.map none)) => some ([], [])
  | _ => none

def lookV (Q : Tab) (nf : Bool) (h : Heap) (t : TypeId) (m k : V) (ok : Bool) : Option V :=
  match Q.und t with
  | some (.map kt e) => (mapIn h m).bind fun kv => (keyOf Q kt k).bind fun k => (findK Q kt k kv.1 0).bind fun r =>
    match r with
    | some i => (kv.2[i]?).map fun v => if ok then .tup [cp v, .p (.b true)] else cp v
    | none => ((zeroCells Q nf e).bind fun z => ofCells Q e z).map fun v => if ok then .tup [cp v, .p (.b false)] else cp v
  | _ => none

def mapPut (Q : Tab) (K : Ctx) (h : Heap) (t : TypeId) (m k v : V) : Option Heap :=
  match Q.und t, m with
  | some (.map kt _), .mp b => match h[b]? with
    | some (.map ks vs) => (keyOf Q kt k).bind fun k => (findK Q kt k ks 0).bind fun r =>
      if K.ro ≤ b && (K.base ≤ b || rb 0 v) then match r with
        | some i => if (ks[i]?).any (PV.beq k) then some (h.set b (.map ks (vs.set i (cp v)))) else none
        | none => some (h.set b (.map (ks ++ [k]) (vs ++ [cp v])))
      else none
    | _ => none
  | _, _ => none

def mapDel (Q : Tab) (K : Ctx) (h : Heap) (t : TypeId) (m k : V) : Option Heap :=
  match Q.und t, m with
  | some (.map kt _), .mp b => match h[b]? with
    | some (.map ks vs) => (keyOf Q kt k).bind fun k => (findK Q kt k ks 0).bind fun r =>
      if K.ro ≤ b then match r with
        | some i => some (h.set b (.map (ks.eraseIdx i) (vs.eraseIdx i)))
        | none => some h
      else none
    | _ => none
  | _, _ => none

def rowPV : List PV → PV
  | [x] => x
  | ps => .agg ps

mutual
/-- what a call hands back, frozen: nothing of the call's own memory (from block n on) is left in it -/
def fz (h : Heap) (n : Nat) : Nat → V → Option PV
  | 0, _ => none
  | _ + 1, .p x => some x
  | _ + 1, .own es => some (.lst es)
  | d + 1, .agg cs => (fzL h n d cs).map .agg
  | d + 1, .ptr b j => if n ≤ b then match h[b]? with
      | some (.var cs) => (fzL h n d cs).bind fun ps => if ps.all (fun p => p.cells.length = 1) then some (.ref ps j) else none
      | _ => none
    else none
  | d + 1, .aptr b i j ver => if n ≤ b then match h[b]? with
      | some (.arr _ rs) => if rs.length = ver then match rs[i]? with
        | some cs => (fzL h n d cs).map fun ps => .ref ps j
        | none => none
        else none
      | _ => none
    else none
  | d + 1, .sl b off len ver => if n ≤ b then match h[b]? with
      | some (.arr _ rs) => if rs.length = ver ∧ off + len ≤ ver then (fzR h n d ((rs.drop off).take len)).map .lst else none
      | _ => none
    else none
  | d + 1, .mp b => if n ≤ b then match h[b]? with
      | some (.map ks vs) => (fzL h n d vs).map fun ps => .mp ks ps
      | _ => none
    else none
  | _ + 1, _ => none
def fzL (h : Heap) (n : Nat) : Nat → List V → Option (List PV)
  | 0, _ => none
  | _ + 1, [] => some []
  | d + 1, v :: vs => match fz h n d v, fzL h n d vs with
    | some x, some xs => some (x :: xs)
    | _, _ => none
def fzR (h : Heap) (n : Nat) : Nat → List (List V) → Option (List PV)
  | 0, _ => none
  | _ + 1, [] => some []
  | d + 1, r :: rs => match fzL h n d r, fzR h n d rs with
    | some ps, some xs => if ps.all PV.cellOk then some (rowPV ps :: xs) else none
    | _, _ => none
end

def fzDepth : Nat := 100000

/-- the same of one part of a result: a list of the call's own may be appended to by whoever gets it -/
def fzCell (h : Heap) (n : Nat) : V → Option V
  | .own es => some (.own es)
  | .sl b 0 len ver => if n ≤ b then match h[b]? with
      | some (.arr _ rs) => if rs.length = ver ∧ len = ver ∧ 0 < len then (fzR h n fzDepth rs).map .own else (fz h n fzDepth (.sl b 0 len ver)).map .p
      | _ => none
    else none
  | v => (fz h n fzDepth v).map .p

def fzPart (h : Heap) (n : Nat) : V → Option V
  | .agg cs => (mapO (fzCell h n) cs).map mkAgg
  | v => fzCell h n v

def fzPure (h : Heap) (n : Nat) (v : V) : Option V := (fz h n fzDepth v).map .p

def cellHeads : V → List Nat
  | .sl b _ _ _ => [b]
  | _ => []
def partHeads : V → List Nat
  | .agg cs => cs.flatMap cellHeads
  | v => cellHeads v
def outHeads : V → List Nat
  | .tup vs => vs.flatMap partHeads
  | v => partHeads v

def fzOut (pu : Bool) (h : Heap) (n : Nat) (v : V) : Option V :=
  if pu then (match v with
    | .tup vs => (mapO (fzPure h n) vs).map .tup
    | v => fzPure h n v)
  else if (outHeads v).Nodup then (match v with
    | .tup vs => (mapO (fzPart h n) vs).map .tup
    | v => fzPart h n v)
  else none


structure Out where
  v : V
  m : Mem
  fr : Fr

mutual
def V.beq : V → V → Bool
  | .p x, .p y => PV.beq x y
  | .own x, .own y => PV.beqL x y
  | .agg x, .agg y => V.beqL x y
  | .tup x, .tup y => V.beqL x y
  | .lptr b j, .lptr c k => b == c && j == k
  | .ptr b j, .ptr c k => b == c && j == k
  | .aptr b i j v, .aptr b' i' j' v' => b == b' && i == i' && j == j' && v == v'
  | .sl b i j v, .sl b' i' j' v' => b == b' && i == i' && j == j' && v == v'
  | .mp b, .mp c => b == c
  | .clo f x y, .clo g z w => f == g && V.beqL x z && V.beqL y w
  | .nov, .nov => true
  | _, _ => false
def V.beqL : List V → List V → Bool
  | [], [] => true
  | x :: xs, y :: ys => V.beq x y && V.beqL xs ys
  | _, _ => false
end

/-- the operation ahead, in the region, that writes the temporary t -/
def defOf (pre : List Oper) (t : Nat) : Option Op := (pre.find? (fun o => o.dst == some t)).map (·.op)

def writesMem (E : Env) (o : Oper) : Bool :=
  match o.op with
  | .store _ _ _ => true
  | .mapUpdate _ _ _ _ => true
  | .call c => match c.callee with
    | .builtin .len => false
    | .builtin .min => false
    | .value (.func g) => E.md g < 2
    | _ => true
  | _ => false

def isStore (o : Oper) : Bool :=
  match o.op with
  | .store _ _ _ => true
  | .call { callee := .builtin .append, .. } => true
  | _ => false

/-- what stands behind the operation that writes t -/
def behindDef (pre : List Oper) (t : Nat) : List Oper := (pre.dropWhile (fun o => o.dst != some t)).drop 1

def isNov : V → Bool
  | .nov => true
  | _ => false

/-- t is a copy of slot s, and both stand as they did -/
def copyOf (pre : List Oper) (fr : Fr) (t : Nat) : Option Nat :=
  match defOf pre t with
  | some (.move (.tmp s)) => if !isNov (rd fr t) && (behindDef pre t).all (fun o => o.dst != some s && o.dst != some t) then some s else none
  | _ => none

def isLptr : V → Bool
  | .lptr _ _ => true
  | _ => false

/-- t was loaded from an address that stands in slot a, and that memory stands as it did -/
def loadOf (E : Env) (sq : Bool) (pre : List Oper) (fr : Fr) (t : Nat) : Option (TypeId × Nat) :=
  match defOf pre t with
  | some (.load ty (.tmp a)) =>
    if !isNov (rd fr t) && a != t && (behindDef pre t).all (fun o => o.dst != some a && o.dst != some t) &&
      (if isLptr (rd fr a) then (if sq then behindDef pre t else pre).all (fun o => !isStore o) else (if sq then behindDef pre t else pre).all (fun o => !writesMem E o)) then some (ty, a) else none
  | _ => none

/-- may what stands at an address lose its right to append? -/
def ownsAt (ro : Nat) : V → Bool
  | .lptr _ _ => true
  | .ptr b _ => ro ≤ b
  | .aptr b _ _ _ => ro ≤ b
  | _ => false

/-- an operand that is handed on with the right to append: its value, the memory and the frame that lose that right. 'pre': the operations ahead in the region; 'sq': they come in the order of the text. -/
def takeS (E : Env) (nf sq : Bool) (ro : Nat) (pre : List Oper) (fr : Fr) (m : Mem) (x : Operand) : V × Mem × Fr :=
  match x with
  | .tmp t =>
    if hasOwn (rd fr t) then (rd fr t, m, setF fr t (cp (rd fr t))) else
    match copyOf pre fr t with
    | some s => if hasOwn (rd fr s) then (rd fr s, m, setF fr s (cp (rd fr s))) else (rd fr t, m, fr)
    | none => match loadOf E sq pre fr t with
      | some (ty, a) => match E.Q.sz ty with
        | none => (rd fr t, m, fr)
        | some n => match ld m (cp (rd fr a)) n with
          | none => (rd fr t, m, fr)
          | some cs => if hasOwnL cs && ownsAt ro (cp (rd fr a)) then
              match ofCells E.Q ty cs with
              | some u => (u, unown m (cp (rd fr a)) n, fr)
              | none => (rd fr t, m, fr)
            else (rd fr t, m, fr)
      | none => (rd fr t, m, fr)
  | x => (argOf nf fr x, m, fr)

/-- the tuple that a component is taken of -/
def tupS (pre : List Oper) (fr : Fr) (t : Nat) : Nat :=
  if hasOwn (rd fr t) then t else
  match copyOf pre fr t with
  | some s => if hasOwn (rd fr s) then s else t
  | none => t

def okFn (Q : Tab) (g : Nat) : Bool :=
  match Q.fn g with
  | some fn => fn.body.isSome && fn.name != "runtime.NumGoroutine"
  | none => false

/-- arguments of a call: those that the callee may append to are handed over -/
def argsOf (E : Env) (nf sq : Bool) (ro : Nat) (pre : List Oper) (tk : List Nat) : Fr → Mem → List Operand → Nat → List V × Mem × Fr
  | fr, m, [], _ => ([], m, fr)
  | fr, m, x :: xs, i =>
    if tk.contains i then
      let q := takeS E nf sq ro pre fr m x
      let r := argsOf E nf sq ro pre tk q.2.2 q.2.1 xs (i + 1)
      (q.1 :: r.1, r.2.1, r.2.2)
    else
      let r := argsOf E nf sq ro pre tk fr m xs (i + 1)
      (argOf nf fr x :: r.1, r.2.1, r.2.2)

def takesOf (E : Env) (nf sq : Bool) (ro : Nat) (pre : List Oper) : Fr → Mem → List Operand → List V × Mem × Fr
  | fr, m, [] => ([], m, fr)
  | fr, m, x :: xs =>
    let q := takeS E nf sq ro pre fr m x
    let r := takesOf E nf sq ro pre q.2.2 q.2.1 xs
    (q.1 :: r.1, r.2.1, r.2.2)

def lenB (Q : Tab) (h : Heap) (t : TypeId) (x : V) : Option V :=
  match Q.und t with
  | some (.array n _) => some (.p (.i .i64 n))
  | some .string => match x with
    | .p (.s l) => some (.p (.i .i64 l.length))
    | _ => none
  | some (.slice _) => match x with
    | .p (.s _) | .mp _ | .p (.mp _ _) | .p (.c _) => none
    | x => (lenV h x).map fun (n : Nat) => V.p (.i .i64 (n : Int))
  | some (.map _ _) => match x with
    | .mp _ | .p (.mp _ _) | .p (.c (.map none)) => (lenV h x).map fun (n : Nat) => V.p (.i .i64 (n : Int))
    | _ => none
  | _ => none

def evBuiltin (E : Env) (K : Ctx) (f rid : Nat) (tkOn : Bool) (pre : List Oper) (b : Builtin) (as : List Operand) (ts : List TypeId) (fr : Fr) (m : Mem) : Option Out :=
  match b with
  | .append => match as, ts with
    | [s, x], [t, tx] => if !srcT E.Q tx then none else let q := takeS E (E.nilF f) tkOn K.ro pre fr m s
      (appendV E.Q K q.2.1.h (E.farr f rid) t q.1 (argOf (E.nilF f) fr x)).map fun r => ⟨r.1, ⟨q.2.1.lm, r.2⟩, q.2.2⟩
    | _, _ => none
  | .len => match as, ts with
    | [x], [t] => (lenB E.Q m.h t (argOf (E.nilF f) fr x)).map fun v => ⟨v, m, fr⟩
    | _, _ => none
  | .min => match as with
    | [x, y] => match argOf (E.nilF f) fr x, argOf (E.nilF f) fr y with
      | .p (.i k a), .p (.i k' b) => if k = k' then some ⟨.p (.i k (if b < a then b else a)), m, fr⟩ else none
      | _, _ => none
    | _ => none
  | .delete => match as, ts with
    | [c, k], t :: _ => (mapDel E.Q K m.h t (argOf (E.nilF f) fr c) (argOf (E.nilF f) fr k)).map fun h => ⟨.nov, ⟨m.lm, h⟩, fr⟩
    | _, _ => none
  | _ => none

def evCall (E : Env) (C : Handler) (K : Ctx) (f rid : Nat) (tkOn : Bool) (pre : List Oper) (c : Call) (fr : Fr) (m : Mem) : Option Out :=
  match c.callee with
  | .value g => match argOf (E.nilF f) fr g with
    | .clo (.func g) a b => let q := argsOf E (E.nilF f) tkOn K.ro pre (if tkOn || E.md g < 2 then E.tk g else []) fr m c.args.toList 0
      if okFn E.Q g && lfL (a ++ q.1 ++ b) then (C K g (a ++ q.1 ++ b) q.2.1.h).map fun r => ⟨r.1, ⟨q.2.1.lm, r.2⟩, q.2.2⟩ else none
    | _ => none
  | .invoke _ _ => none
  | .builtin b => evBuiltin E K f rid tkOn pre b c.args.toList c.argTypes.toList fr m

def newVarV (E : Env) (f : Nat) (hp : Bool) (o : Oper) (m : Mem) (cs : List V) : V × Mem :=
  if hp || (o.dst.map (E.esc f)).getD true then (.ptr m.h.length 0, ⟨m.lm, m.h ++ [.var cs]⟩) else (.lptr m.lm.length 0, ⟨m.lm ++ [cs], m.h⟩)

def evOp (E : Env) (C : Handler) (K : Ctx) (f rid : Nat) (tkOn : Bool) (pre : List Oper) (o : Oper) (fr : Fr) (m : Mem) : Option Out :=
  match o.op with
  | .move x => some ⟨argOf (E.nilF f) fr x, m, fr⟩
  | .assign x => let q := takeS E (E.nilF f) tkOn K.ro pre fr m x; some ⟨q.1, q.2.1, q.2.2⟩
  | .pick c a b => (toB (argOf (E.nilF f) fr c)).map fun t => ⟨if t then argOf (E.nilF f) fr a else argOf (E.nilF f) fr b, m, fr⟩
  | .alloc t => (zeroCells E.Q (E.nilF f) t).bind fun z => if z.all V.cellOk then (let r := newVarV E f (!tkOn) o m z; some ⟨r.1, r.2, fr⟩) else none
  | .box t x => let q := takeS E (E.nilF f) tkOn K.ro pre fr m x
    (E.Q.sz t).bind fun n => if q.1.cells.length = n ∧ q.1.cells.all V.cellOk then (let r := newVarV E f false o q.2.1 q.1.cells; some ⟨r.1, r.2, q.2.2⟩) else none
  | .build t parts => if tkOn then
      let q := takesOf E (E.nilF f) tkOn K.ro pre fr m (parts.toList.map (·.2))
      (buildV E.Q (E.nilF f) t ((parts.toList.map (·.1)).zip q.1)).map fun v => ⟨v, q.2.1, q.2.2⟩
    else (buildV E.Q (E.nilF f) t (parts.toList.map fun x => (x.1, argOf (E.nilF f) fr x.2))).map fun v => ⟨v, m, fr⟩
  | .buildSlice t n parts => (listOf E.Q m.h t n (parts.toList.map fun x => (x.1, argOf (E.nilF f) fr x.2))).map fun r => ⟨r.1, ⟨m.lm, r.2⟩, fr⟩
  | .load t a => (E.Q.sz t).bind fun n => (ld m (argOf (E.nilF f) fr a) n).bind fun r => (ofCells E.Q t (cpL r)).map fun v => ⟨v, m, fr⟩
  | .store t a x => let q := takeS E (E.nilF f) tkOn K.ro pre fr m x
    (E.Q.sz t).bind fun n => if q.1.cells.length = n then (stv K q.2.1 (argOf (E.nilF f) fr a) q.1.cells).map fun m => ⟨.nov, m, q.2.2⟩ else none
  | .nilCheck x => match argOf (E.nilF f) fr x with
    | .lptr b j => some ⟨.lptr b j, m, fr⟩
    | .ptr b j => some ⟨.ptr b j, m, fr⟩
    | .aptr b i j v => some ⟨.aptr b i j v, m, fr⟩
    | .p (.ref cs off) => some ⟨.p (.ref cs off), m, fr⟩
    | .clo (.func g) a b => some ⟨.clo (.func g) a b, m, fr⟩
    | _ => none
  | .binOp op t x y _ => (binV E.Q op t (argOf (E.nilF f) fr x) (argOf (E.nilF f) fr y)).map fun v => ⟨v, m, fr⟩
  | .unOp op _ x => (unV op (argOf (E.nilF f) fr x)).map fun v => ⟨v, m, fr⟩
  | .convert s d x => (convV E.Q s d (argOf (E.nilF f) fr x)).map fun v => ⟨v, m, fr⟩
  | .makeFunc fn a b => match fn with
    | .func g => if lfL (a.toList.map (argOf (E.nilF f) fr)) && lfL (b.toList.map (argOf (E.nilF f) fr)) then
        some ⟨.clo (.func g) (a.toList.map (argOf (E.nilF f) fr)) (b.toList.map (argOf (E.nilF f) fr)), m, fr⟩ else none
    | _ => none
  | .makeMap t none => match E.Q.und t with
    | some (.map _ _) => some ⟨.mp m.h.length, ⟨m.lm, m.h ++ [.map [] []]⟩, fr⟩
    | _ => none
  | .makeSlice t l c => (makeArr E.Q (E.nilF f) m.h t (argOf (E.nilF f) fr l) (argOf (E.nilF f) fr c)).map fun r => ⟨r.1, ⟨m.lm, r.2⟩, fr⟩
  | .slice t x lo hi mx => (sliceV E.Q m.h t (argOf (E.nilF f) fr x) (lo.map (argOf (E.nilF f) fr)) (hi.map (argOf (E.nilF f) fr)) (mx.map (argOf (E.nilF f) fr))).map fun v => ⟨v, m, fr⟩
  | .fieldAddr t x i => (fieldOf E.Q t i).bind fun q => (E.Q.sz q.2).bind fun n => if n = 0 then none else (addOff (argOf (E.nilF f) fr x) q.1).map fun v => ⟨v, m, fr⟩
  | .field t x i => (fieldOf E.Q t i).bind fun q => (E.Q.sz q.2).bind fun n => ((argOf (E.nilF f) fr x).aggCells).bind fun xs => (getCells xs q.1 n).bind fun cs => (ofCells E.Q q.2 cs).map fun v => ⟨cp v, m, fr⟩
  | .indexAddr t x i => (ixAddr E.Q m.h t (argOf (E.nilF f) fr x) (argOf (E.nilF f) fr i)).map fun v => ⟨v, m, fr⟩
  | .index t x i => (ixVal E.Q t (argOf (E.nilF f) fr x) (argOf (E.nilF f) fr i)).map fun v => ⟨v, m, fr⟩
  | .lookup t c k ok => (lookV E.Q (E.nilF f) m.h t (argOf (E.nilF f) fr c) (argOf (E.nilF f) fr k) ok).map fun v => ⟨v, m, fr⟩
  | .mapUpdate t c k x => if lf (argOf (E.nilF f) fr x) then (mapPut E.Q K m.h t (argOf (E.nilF f) fr c) (argOf (E.nilF f) fr k) (argOf (E.nilF f) fr x)).map fun h => ⟨.nov, ⟨m.lm, h⟩, fr⟩ else none
  | .extract x i => match x with
    | .tmp t => match (if tkOn then rd fr (tupS pre fr t) else rd fr t) with
      | .tup vs => (vs[i]?).map fun v => if tkOn && hasOwn v then ⟨v, m, setF fr (tupS pre fr t) (.tup (vs.set i (cp v)))⟩ else ⟨cp v, m, fr⟩
      | _ => none
    | _ => none
  | .call c => evCall E C K f rid tkOn pre c fr m
  | _ => none

/-- is the operation wanted (its guard)? -/
def wantedV (ops : Array Oper) (fr : Fr) (o : Oper) : Option Bool :=
  match o.guard with
  | none => some true
  | some (j, want) => match (ops[j]?).bind (·.dst) with
    | none => some false
    | some d => match rd fr d with
      | .p (.b x) => some (x == want)
      | .nov => some false
      | .p (.i _ _) => some false
      | _ => none

def evOps (E : Env) (C : Handler) (K : Ctx) (f rid : Nat) (tkOn : Bool) (ops : Array Oper) : List Nat → St → Option St
  | [], st => some st
  | i :: rest, st => match ops[i]? with
    | none => none
    | some o => match wantedV ops st.fr o with
      | some true => (evOp E C K f rid tkOn (ops.toList.take i) o st.fr st.m).bind fun r => evOps E C K f rid tkOn ops rest ⟨putF r.fr o.dst r.v, r.m⟩
      | some false => evOps E C K f rid tkOn ops rest ⟨putF st.fr o.dst .nov, st.m⟩
      | none => none

/-- may a value of this type lead to memory that is written? -/
def refT (Q : Tab) : Nat → TypeId → Bool
  | 0, _ => true
  | d + 1, t => match Q.und t with
    | some .bool | some (.int _) | some .string => false
    | some (.struct fs) => fs.any fun f => refT Q d f.type
    | some (.array _ e) => refT Q d e
    | _ => true

/-- 0: reads no memory · 1: reads it · 2: a call that leaves it alone · 3: may change it · 4: a new variable, zero -/
def clsOf (E : Env) (o : Oper) : Nat :=
  match o.op with
  | .load _ _ => 1
  | .lookup _ _ _ _ => 1
  | .indexAddr _ _ _ => 1
  | .slice _ _ _ _ _ => 1
  | .alloc _ => 4
  | .call c => match c.callee with
    | .value (.func g) => if 2 ≤ E.md g then 2 else 3
    | .builtin .len => 1
    | .builtin .min => 0
    | _ => 3
  | .buildSlice t _ _ => match E.Q.und t with
    | some (.slice e) => if refT E.Q 8 e then 3 else 0
    | _ => 3
  | .store _ _ _ | .mapUpdate _ _ _ _ | .box _ _ | .makeMap _ _ | .makeSlice _ _ _ | .assign _ => 3
  | .move _ | .pick _ _ _ | .build _ _ | .nilCheck _ | .binOp _ _ _ _ _ | .unOp _ _ _ | .convert _ _ _ | .makeFunc _ _ _
  | .fieldAddr _ _ _ | .field _ _ _ | .index _ _ _ | .extract _ _ => 0
  | _ => 3

def ordB (b : Array Nat) (i j : Nat) : Bool := (b.getD j 0).testBit i

/-- are operations i, j of these classes free to come in either order, or held by an edge? (i stands ahead of j in the text) -/
def pairOk (b : Array Nat) (i j ci cj : Nat) : Bool :=
  ordB b i j || !((ci == 3 && (cj == 3 || cj == 2)) || (ci == 2 && cj == 3))

/-- slots that stand behind an operand: what it was copied from, or the address it was loaded from -/
def extraOf (pre : List Oper) (x : Operand) : List Nat :=
  match x with
  | .tmp t => match defOf pre t with
    | some (.move (.tmp s)) => [s]
    | some (.load _ (.tmp a)) => [a]
    | _ => []
  | _ => []

def guardSlot (ops : Array Oper) (o : Oper) : List Nat :=
  match o.guard with
  | none => []
  | some (j, _) => ((ops[j]?).bind (·.dst)).toList

def tmpsOf (xs : List Operand) : List Nat := xs.filterMap fun | .tmp t => some t | _ => none

/-- slots that an operation looks at or writes -/
def namesOf (ops : Array Oper) (o : Oper) : List Nat := o.dst.toList ++ guardSlot ops o ++ tmpsOf o.op.operands.toList

def ordI (b : Array Nat) (i j : Nat) : Bool := ordB b (min i j) (max i j)

def namesOk (ops : Array Oper) (b : Array Nat) : Bool :=
  ops.toList.zipIdx.all fun (o, j) => (namesOf ops o).all fun t => ops.toList.zipIdx.all fun (u, i) => u.dst != some t || i == j || ordI b i j

def extraOk (E : Env) (ops : Array Oper) (b : Array Nat) : Bool :=
  ops.toList.zipIdx.all fun (o, j) => clsOf E o != 3 || (o.op.operands.toList.flatMap (extraOf (ops.toList.take j))).all fun t =>
    ops.toList.zipIdx.all fun (u, i) => u.dst != some t || i == j || clsOf E u == 3 || ordI b i j

def topoOk (md : Region.Mode) (ops : Array Oper) : List Nat → List Nat → Bool
  | _, [] => true
  | dn, i :: rest => (match ops[i]? with
    | some o => o.after.toList.all fun e => !Region.binds md e || dn.contains e.on
    | none => false) && topoOk md ops (i :: dn) rest

/-- an order of the text, and one of the compiler, that takes in all operations -/
def modeOk (md : Region.Mode) (ops : Array Oper) : Bool :=
  let l := Region.linearise md ops 0
  topoOk md ops [] l && (List.range ops.size).all fun i => l.contains i

def edgesOk (ops : Array Oper) : Bool :=
  ops.toList.zipIdx.all (fun (o, j) => o.after.toList.all fun e => !Region.binds .any e || e.on < j) && (!Region.departs ops || (modeOk .text ops && modeOk .gc ops))

def drawOk (E : Env) (ops : Array Oper) : Bool :=
  let b := Region.before ops
  let cs := ops.map (clsOf E)
  namesOk ops b && extraOk E ops b && edgesOk ops &&
  (List.range ops.size).all (fun j => (List.range j).all fun i => pairOk b i j (cs.getD i 3) (cs.getD j 3)) &&
  ops.toList.zipIdx.all (fun (o, i) => clsOf E o != 4 || (o.guard.isNone && b.getD i 0 == 0))

def isAlloc (o : Oper) : Bool := match o.op with | .alloc _ => true | _ => false

/-- one operation of a region whose order is drawn -/
def evDrawOps (E : Env) (C : Handler) (K : Ctx) (f rid : Nat) (ops : Array Oper) (b : Array Nat) : List Nat → List (Nat × Oper × Fr × V) → List (Nat × Mem) → St → Option St
  | [], _, _, st => some st
  | i :: rest, dn, hist, st => match ops[i]? with
    | none => none
    | some o => if isAlloc o then evDrawOps E C K f rid ops b rest dn hist st else match wantedV ops st.fr o with
      | some true => (evOp E C K f rid false (ops.toList.take i) o st.fr st.m).bind fun r =>
        let c := clsOf E o
        if c != 3 && r.m.h.length != st.m.h.length then none else
        let st' : St := ⟨putF r.fr o.dst r.v, if c = 3 then r.m else st.m⟩
        if c = 1 then
          if hist.all (fun (x : Nat × Mem) => ordB b x.1 i || (match evOp E C K f rid false (ops.toList.take i) o st.fr x.2 with | some r' => V.beq r'.v r.v | none => false)) then
            evDrawOps E C K f rid ops b rest ((i, o, st.fr, r.v) :: dn) hist st'
          else none
        else if c = 3 then
          if dn.all (fun (x : Nat × Oper × Fr × V) => ordB b x.1 i || (match evOp E C K f rid false (ops.toList.take x.1) x.2.1 x.2.2.1 r.m with | some r' => V.beq r'.v x.2.2.2 | none => false)) then
            evDrawOps E C K f rid ops b rest dn ((i, st.m) :: hist) st'
          else none
        else evDrawOps E C K f rid ops b rest dn hist st'
      | some false => evDrawOps E C K f rid ops b rest dn hist ⟨putF st.fr o.dst .nov, st.m⟩
      | none => none

def evRegion (E : Env) (C : Handler) (K : Ctx) (f rid : Nat) (ops : Array Oper) (draw : Bool) (st : St) : Option St :=
  if draw then
    if E.dok f rid then
      let al := (List.range ops.size).filter fun i => (ops[i]?).any isAlloc
      (evOps E C K f rid false ops al st).bind fun st =>
        evDrawOps E C K f rid ops (Region.before ops) (List.range ops.size) [] [] st
    else none
  else evOps E C K f rid true ops (List.range ops.size) st

inductive Ex where
  | nrm
  | ext (id : Nat)
  | ret

abbrev LHandler := Ctx → FuncId → Code → St → Option (Ex × St)

def evCode (E : Env) (C : Handler) (L : LHandler) (K : Ctx) (f : Nat) : Code → St → Option (Ex × St)
  | .skip, st => some (.nrm, st)
  | .region id ops draw, st => (evRegion E C K f id ops draw st).map fun st => (.nrm, st)
  | .seq a b, st => (evCode E C L K f a st).bind fun r => match r.1 with
    | .nrm => evCode E C L K f b r.2
    | e => some (e, r.2)
  | .cond c a b, st => match toB (argOf (E.nilF f) st.fr c) with
    | some true => evCode E C L K f a st
    | some false => evCode E C L K f b st
    | none => none
  | .block id c, st => (evCode E C L K f c st).map fun r => match r.1 with
    | .ext i => if i = id then (.nrm, r.2) else r
    | _ => r
  | .loop c, st => L K f c st
  | .exit id, st => some (.ext id, st)
  | .ret, st => some (.ret, st)
  | _, _ => none

def firstRegion : Code → Nat
  | .region id _ _ => id
  | .seq a _ => firstRegion a
  | .cond _ a _ => firstRegion a
  | .block _ c => firstRegion c
  | .loop c => firstRegion c
  | _ => 0

/-- what slots below k hold -/
def keepF (fr : Fr) : Nat → List (Nat × V)
  | 0 => []
  | k + 1 => (k, rd fr k) :: keepF fr k

def mask (nv : Nat) (fr : Fr) : Fr := ⟨keepF fr nv, .und⟩
mutual
/-- pointers to variables of the call's own are below n -/
def lb (n : Nat) : V → Bool
  | .lptr b _ => b < n
  | .agg cs => lbL n cs
  | .tup vs => lbL n vs
  | .clo _ a b => lbL n a && lbL n b
  | .ifc _ v => lb n v
  | _ => true
def lbL (n : Nat) : List V → Bool
  | [] => true
  | v :: vs => lb n v && lbL n vs
end
def clrR (l n : Nat) (v : V) : V := if rb n v && lb l v then v else .und
def dropTo (l n : Nat) (st : St) : St := ⟨⟨st.fr.l.map fun x => (x.1, clrR l n x.2), clrR l n st.fr.d⟩, ⟨(st.m.lm.take l).map fun cs => cs.map (clrR l n), st.m.h.take n⟩⟩

def evLoop (E : Env) (C : Handler) (L : LHandler) : LHandler := fun K f body st =>
  let kp := E.kl f (firstRegion body)
  let n := st.m.h.length
  let K' : Ctx := if kp then K else ⟨K.ro, n⟩
  (evCode E C L K' f body ⟨mask (E.nvs f) st.fr, st.m⟩).bind fun r => match r.1 with
    | .nrm => L K f body (if kp then r.2 else dropTo st.m.lm.length n r.2)
    | e => some (e, r.2)

def resV (Q : Tab) (fr : Fr) (m : Mem) : List ResultVar → Option (List V)
  | [] => some []
  | .tmp t :: rs => (resV Q fr m rs).map fun vs => rd fr t :: vs
  | .cell a t :: rs => (Q.sz t).bind fun n => (ld m (cp (rd fr a)) n).bind fun r => (ofCells Q t (match rd fr a with | .lptr _ _ => r | _ => cpL r)).bind fun v => (resV Q fr m rs).map fun vs => v :: vs

def resTmps : List ResultVar → List Nat
  | [] => []
  | .tmp t :: rs => t :: resTmps rs
  | .cell _ _ :: rs => resTmps rs

def resBoxes (fr : Fr) : List ResultVar → List Nat
  | [] => []
  | .tmp _ :: rs => resBoxes fr rs
  | .cell a _ :: rs => match rd fr a with
    | .lptr b _ => b :: resBoxes fr rs
    | _ => resBoxes fr rs

/-- how a function is taken: 0: as it stands · 1: what it makes is gone at its return · 2, 3: besides, it leaves the memory alone (2: its results are pure) -/
def ctxOf (m : Nat) (K : Ctx) (n : Nat) : Ctx := if m = 0 then K else if m = 1 then ⟨K.ro, n⟩ else ⟨n, n⟩

def evBody (E : Env) (C : Handler) (L : LHandler) (K : Ctx) (f : FuncId) (fn : Func) (args : List V) (h : Heap) : Option (V × Heap) :=
  match fn.body with
  | none => none
  | some code =>
    if args.length ≤ fn.ntmps ∧ (resTmps fn.results.toList).Nodup then
      (evCode E C L (ctxOf (E.md f) K h.length) f code ⟨⟨args.zipIdx.map fun x => (x.2, x.1), .nov⟩, ⟨[], h⟩⟩).bind fun r => match r.1 with
        | .ext _ => none
        | _ => (resV E.Q r.2.fr r.2.m fn.results.toList).bind fun vs =>
          let v : V := match vs with | [v] => v | vs => .tup vs
          if lfL vs ∧ (resBoxes r.2.fr fn.results.toList).Nodup then (if E.md f = 0 then some (v, r.2.m.h) else (fzOut (E.md f == 2) r.2.m.h h.length v).map fun v => (v, if E.md f = 1 then r.2.m.h.take h.length else h)) else none
    else none

def evFn (E : Env) (C : Handler) (L : LHandler) : Handler := fun K f args h =>
  match E.sum f with
  | some S => S K args h
  | none => match E.Q.fn f with
    | some fn => evBody E C L K f fn args h
    | none => none

def hand (E : Env) : Nat → Handler × LHandler
  | 0 => (fun _ _ _ _ => none, fun _ _ _ _ => none)
  | d + 1 => (evFn E (hand E d).1 (hand E d).2, evLoop E (hand E d).1 (hand E d).2)

end Go.Wn

namespace Go.Wn
open Go

inductive RepP (w : World) (X : Nat → Nat) : PV → Value → Prop
  | b (x : Bool) : RepP w X (.b x) (.bool x)
  | i (k : IntKind) (n : Int) : RepP w X (.i k n) (.int k n)
  | s (x : List UInt8) : RepP w X (.s x) (.string ⟨x.toArray⟩)
  | c (x : Value) (h : x = .pointer none ∨ x = .map none ∨ x = .nilFunc ∨ x = .nilIface) : RepP w X (.c x) x
  | agg (cs : List PV) (ys : Array Value) (hl : ys.size = cs.length) (h : ∀ j c, cs[j]? = some c → RepP w X c (ys.getD j undef)) : RepP w X (.agg cs) (.agg ys)
  | lst (es : List PV) (a : Option Addr) (cap sz B off : Nat) (f : Nat → Nat → Value)
      (ha : es = [] ∨ a = some ⟨B, off, none⟩)
      (hz : ∀ (i : Nat) (e : PV), es[i]? = some e → e.cells.length = sz)
      (hcap : es.length ≤ cap)
      (hc : ∀ (i : Nat) (e : PV) (j : Nat) (c : PV), es[i]? = some e → e.cells[j]? = some c → off + (i * sz + j) < X B ∧ w.cell? ⟨B, off + (i * sz + j), none⟩ = some (f i j))
      (hr : ∀ (i : Nat) (e : PV) (j : Nat) (c : PV), es[i]? = some e → e.cells[j]? = some c → RepP w X c (f i j)) : RepP w X (.lst es) (.slice a es.length cap)
  | nils : RepP w X .nils (.slice none 0 0)
  | ref (cs : List PV) (off B o : Nat) (f : Nat → Value)
      (hc : ∀ (j : Nat) (c : PV), cs[j]? = some c → o + j < X B ∧ w.cell? ⟨B, o + j, none⟩ = some (f j))
      (hr : ∀ j c, cs[j]? = some c → RepP w X c (f j)) : RepP w X (.ref cs off) (.pointer (some ⟨B, o + off, none⟩))
  | mp (ks vs : List PV) (R : Nat) (es : Array MapEntry) (ck : Nat)
      (hm : w.heap[R]? = some (.map es ck)) (hx : 0 < X R) (hk : es.size = ks.length) (hv : vs.length = ks.length)
      (hks : ∀ i k, ks[i]? = some k → RepP w X k (es.getD i default).key)
      (hvs : ∀ i v, vs[i]? = some v → RepP w X v (es.getD i default).val) : RepP w X (.mp ks vs) (.map (some R))

/-- cells without references -/
abbrev ZV := { l : List V // rbL 0 l = true }

structure Gh where
  ρ : List (Option Nat)
  lam : List Nat
  sh : Nat → Option (Nat × Nat)
  X : Nat → Nat
  z : Nat → ZV := fun _ => ⟨[], rfl⟩

/-- where an own list lies: at the head of a block of its own -/
structure OwnAt (w : World) (X : Nat → Nat) (n sz B cap : Nat) : Prop where
  end_ : X B = n * sz
  blk : ∃ ys T, w.heap[B]? = some (.cells ys T (0, 0)) ∧ ys.size = cap * sz
  cap : n ≤ cap

mutual
/-- how often block B is owned in a value -/
def pm (B : Nat) : V → Value → Nat
  | .own es, .slice (some a) _ _ => if es ≠ [] ∧ a.block = B then 1 else 0
  | .agg cs, .agg ys => pmL B cs ys 0
  | .tup cs, .tuple ys => pmL B cs ys 0
  | _, _ => 0
def pmL (B : Nat) : List V → Array Value → Nat → Nat
  | [], _, _ => 0
  | c :: cs, ys, j => pm B c (ys.getD j undef) + pmL B cs ys (j + 1)
end

inductive RepV (g : Gh) (w : World) : V → Value → Prop
  | p (x : PV) (y : Value) (h : RepP w g.X x y) : RepV g w (.p x) y
  | own0 (a : Option Addr) : RepV g w (.own []) (.slice a 0 0)
  | own (es : List PV) (cap sz B : Nat) (hne : es ≠ []) (h : RepP w g.X (.lst es) (.slice (some ⟨B, 0, none⟩) es.length cap))
      (hz : ∀ e : PV, e ∈ es → e.cells.length = sz) (ho : OwnAt w g.X es.length sz B cap) : RepV g w (.own es) (.slice (some ⟨B, 0, none⟩) es.length cap)
  | agg (cs : List V) (ys : Array Value) (hl : ys.size = cs.length) (h : ∀ j c, cs[j]? = some c → RepV g w c (ys.getD j undef)) : RepV g w (.agg cs) (.agg ys)
  | tup (cs : List V) (ys : Array Value) (hl : ys.size = cs.length) (h : ∀ j c, cs[j]? = some c → RepV g w c (ys.getD j undef)) : RepV g w (.tup cs) (.tuple ys)
  | lptr (b j B : Nat) (h : g.lam[b]? = some B) : RepV g w (.lptr b j) (.pointer (some ⟨B, j, none⟩))
  | ptr (b j B : Nat) (hs : g.sh b = none) (h : g.ρ[b]? = some (some B)) : RepV g w (.ptr b j) (.pointer (some ⟨B, j, none⟩))
  | aptr (b i j ver sz n : Nat) (y : Value) (hy : ∃ a, y = .pointer (some a)) (hs : g.sh b = some (sz, n)) (hv : ver ≤ n)
      (h : ver = n → ∃ B, g.ρ[b]? = some (some B) ∧ y = .pointer (some ⟨B, i * sz + j, none⟩)) : RepV g w (.aptr b i j ver) y
  | sl (b off len ver sz n : Nat) (ad : Addr) (cap : Nat) (hl : len ≤ cap) (hs : g.sh b = some (sz, n)) (hv : ver ≤ n)
      (h : ver = n → ∃ B ys T, g.ρ[b]? = some (some B) ∧ (cap = 0 ∨ ad = ⟨B, off * sz, none⟩) ∧ w.heap[B]? = some (.cells ys T (0, 0)) ∧ (off + cap) * sz = ys.size) :
      RepV g w (.sl b off len ver) (.slice (some ad) len cap)
  | mp (b R : Nat) (hs : g.sh b = none) (h : g.ρ[b]? = some (some R)) : RepV g w (.mp b) (.map (some R))
  | clo (f : Fn) (fs bs : List V) (xs ys : Array Value) (ha : xs.size = fs.length) (hb : ys.size = bs.length) (o1 : ∀ B, pmL B fs xs 0 = 0) (o2 : ∀ B, pmL B bs ys 0 = 0)
      (h1 : ∀ j c, fs[j]? = some c → RepV g w c (xs.getD j undef)) (h2 : ∀ j c, bs[j]? = some c → RepV g w c (ys.getD j undef)) : RepV g w (.clo f fs bs) (.func f xs ys)
  | und (y : Value) : RepV g w .und y
  | nov : RepV g w .nov undef

/-- frozen memory stays -/
structure Fzn (w w' : World) (X X' : Nat → Nat) : Prop where
  cell : ∀ B o y, o < X B → w.cell? ⟨B, o, none⟩ = some y → o < X' B ∧ w'.cell? ⟨B, o, none⟩ = some y
  map : ∀ R es ck, w.heap[R]? = some (.map es ck) → 0 < X R → w'.heap[R]? = some (.map es ck) ∧ 0 < X' R

theorem Fzn.refl (w : World) (X : Nat → Nat) : Fzn w w X X := ⟨fun _ _ _ h h' => ⟨h, h'⟩, fun _ _ _ h h' => ⟨h, h'⟩⟩
theorem Fzn.trans {w w1 w2 : World} {X X1 X2 : Nat → Nat} (h : Fzn w w1 X X1) (k : Fzn w1 w2 X1 X2) : Fzn w w2 X X2 :=
  ⟨fun B o y a b => (h.cell B o y a b).elim fun a b => k.cell B o y a b, fun R es ck a b => (h.map R es ck a b).elim fun a b => k.map R es ck a b⟩

theorem RepP.mono {w w' : World} {X X' : Nat → Nat} (hf : Fzn w w' X X') {x : PV} {y : Value} (h : RepP w X x y) : RepP w' X' x y := by
  induction h with
  | b x => exact .b x
  | i k n => exact .i k n
  | s x => exact .s x
  | c x h => exact .c x h
  | agg cs ys hl _ ih => exact .agg cs ys hl ih
  | lst es a cap sz B off f ha hz hcap hc _ ih => exact .lst es a cap sz B off f ha hz hcap (fun i e j c h1 h2 => hf.cell _ _ _ (hc i e j c h1 h2).1 (hc i e j c h1 h2).2) ih
  | nils => exact .nils
  | ref cs off B o f hc _ ih => exact .ref cs off B o f (fun j c h1 => hf.cell _ _ _ (hc j c h1).1 (hc j c h1).2) ih
  | mp ks vs R es ck hm hx hk hv _ _ ih1 ih2 => exact .mp ks vs R es ck (hf.map R es ck hm hx).1 (hf.map R es ck hm hx).2 hk hv ih1 ih2

/-- blocks of cells keep their size, and are not frozen by a string -/
def Shp (w w' : World) : Prop := ∀ (B : Nat) (ys : Array Value) (T : TypeId) (fr : Nat × Nat), w.heap[B]? = some (.cells ys T fr) → ∃ ys' : Array Value, w'.heap[B]? = some (.cells ys' T fr) ∧ ys'.size = ys.size

theorem Shp.refl (w : World) : Shp w w := fun _ ys _ _ h => ⟨ys, h, rfl⟩
theorem Shp.trans {w w1 w2 : World} (h : Shp w w1) (k : Shp w1 w2) : Shp w w2 := fun B ys T fr a => by
  obtain ⟨y1, a1, b1⟩ := h B ys T fr a
  obtain ⟨y2, a2, b2⟩ := k B y1 T fr a1
  exact ⟨y2, a2, b2.trans b1⟩

structure GhLe (g g' : Gh) : Prop where
  lam : ∀ b B : Nat, g.lam[b]? = some B → g'.lam[b]? = some B
  pt : ∀ b B : Nat, g.sh b = none → g.ρ[b]? = some (some B) → g'.sh b = none ∧ g'.ρ[b]? = some (some B)
  sh : ∀ b sz n : Nat, g.sh b = some (sz, n) → ∃ n', g'.sh b = some (sz, n') ∧ n ≤ n' ∧ (n = n' → ∀ B, g.ρ[b]? = some (some B) → g'.ρ[b]? = some (some B))
  un : ∀ b : Nat, g.ρ[b]? = some none → g'.ρ[b]? = some none ∧ g'.z b = g.z b

/-- the same, without what was not yet executed -/
structure GhLe0 (g g' : Gh) : Prop where
  lam : ∀ b B : Nat, g.lam[b]? = some B → g'.lam[b]? = some B
  pt : ∀ b B : Nat, g.sh b = none → g.ρ[b]? = some (some B) → g'.sh b = none ∧ g'.ρ[b]? = some (some B)
  sh : ∀ b sz n : Nat, g.sh b = some (sz, n) → ∃ n', g'.sh b = some (sz, n') ∧ n ≤ n' ∧ (n = n' → ∀ B, g.ρ[b]? = some (some B) → g'.ρ[b]? = some (some B))

theorem GhLe.to0 {g g' : Gh} (h : GhLe g g') : GhLe0 g g' := ⟨h.lam, h.pt, h.sh⟩
theorem GhLe0.refl (g : Gh) : GhLe0 g g := ⟨fun _ _ h => h, fun _ _ h h' => ⟨h, h'⟩, fun _ _ n h => ⟨n, h, Nat.le_refl _, fun _ _ h => h⟩⟩
instance (g g' : Gh) : Coe (GhLe g g') (GhLe0 g g') := ⟨GhLe.to0⟩

theorem GhLe.refl (g : Gh) : GhLe g g := ⟨fun _ _ h => h, fun _ _ h h' => ⟨h, h'⟩, fun _ _ n h => ⟨n, h, Nat.le_refl _, fun _ _ h => h⟩, fun _ h => ⟨h, rfl⟩⟩
theorem GhLe.trans {a b c : Gh} (h : GhLe a b) (k : GhLe b c) : GhLe a c where
  un := fun x e => by
    obtain ⟨e1, z1⟩ := h.un x e
    obtain ⟨e2, z2⟩ := k.un x e1
    exact ⟨e2, z2.trans z1⟩
  lam := fun x B e => k.lam x B (h.lam x B e)
  pt := fun x B e1 e2 => (h.pt x B e1 e2).elim fun e1 e2 => k.pt x B e1 e2
  sh := fun x sz n e => by
    obtain ⟨n1, e1, l1, f1⟩ := h.sh x sz n e
    obtain ⟨n2, e2, l2, f2⟩ := k.sh x sz n1 e1
    refine ⟨n2, e2, Nat.le_trans l1 l2, fun hn B hB => ?_⟩
    have h1 : n = n1 := Nat.le_antisymm l1 (hn ▸ l2)
    exact f2 (by omega) B (f1 h1 B hB)

theorem pm_p (B : Nat) (x : PV) (y : Value) : pm B (.p x) y = 0 := by cases y <;> simp [pm]

mutual
theorem pm_noown (B : Nat) : ∀ (v : V) (y : Value), hasOwn v = false → pm B v y = 0
  | .p _, y, _ => pm_p B _ y
  | .own _, _, h => by simp [hasOwn] at h
  | .agg cs, y, h => by
    cases y <;> simp only [pm]
    exact pmL_noown B cs _ 0 (by simpa [hasOwn] using h)
  | .tup cs, y, h => by
    cases y <;> simp only [pm]
    exact pmL_noown B cs _ 0 (by simpa [hasOwn] using h)
  | .lptr _ _, y, _ => by cases y <;> simp [pm]
  | .ptr _ _, y, _ => by cases y <;> simp [pm]
  | .aptr _ _ _ _, y, _ => by cases y <;> simp [pm]
  | .sl _ _ _ _, y, _ => by cases y <;> simp [pm]
  | .mp _, y, _ => by cases y <;> simp [pm]
  | .clo _ _ _, y, _ => by cases y <;> simp [pm]
  | .ifc _ _, y, _ => by cases y <;> simp [pm]
  | .und, y, _ => by cases y <;> simp [pm]
  | .nov, y, _ => by cases y <;> simp [pm]
theorem pmL_noown (B : Nat) : ∀ (cs : List V) (ys : Array Value) (k : Nat), hasOwnL cs = false → pmL B cs ys k = 0
  | [], _, _, _ => by simp [pmL]
  | c :: cs, ys, k, h => by
    simp only [hasOwnL, Bool.or_eq_false_iff] at h
    simp only [pmL]
    rw [pm_noown B c _ h.1, pmL_noown B cs ys (k + 1) h.2]
end

theorem hasOwnL_get : ∀ (cs : List V) (j : Nat) (c : V), hasOwnL cs = false → cs[j]? = some c → hasOwn c = false
  | [], _, _, _, h => by simp at h
  | x :: xs, 0, c, h, e => by simp at e; subst e; simp only [hasOwnL, Bool.or_eq_false_iff] at h; exact h.1
  | x :: xs, j + 1, c, h, e => by simp only [hasOwnL, Bool.or_eq_false_iff] at h; exact hasOwnL_get xs j c h.2 (by simpa using e)

theorem pmL_get (B : Nat) : ∀ (cs : List V) (ys : Array Value) (k j : Nat) (c : V), cs[j]? = some c → pm B c (ys.getD (k + j) undef) ≤ pmL B cs ys k
  | [], _, _, _, _, h => by simp at h
  | x :: xs, ys, k, 0, c, h => by simp at h; subst h; simp [pmL]
  | x :: xs, ys, k, j + 1, c, h => by
    have := pmL_get B xs ys (k + 1) j c (by simpa using h)
    simp only [pmL]
    have e : k + (j + 1) = k + 1 + j := by omega
    rw [e]; omega

theorem RepV.mono {g g' : Gh} {w w' : World} (hf : Fzn w w' g.X g'.X) (hs : Shp w w') (hg : GhLe0 g g') {v : V} {y : Value} (h : RepV g w v y) :
    (∀ B, 0 < pm B v y → g'.X B = g.X B) → RepV g' w' v y := by
  induction h with
  | p x y h => exact fun _ => .p x y (h.mono hf)
  | own0 a => exact fun _ => .own0 a
  | own es cap sz B hne h hz ho =>
    intro hX
    have e : g'.X B = g.X B := hX B (by simp [pm, hne])
    obtain ⟨ys, T, hb, hle⟩ := ho.blk
    obtain ⟨ys', hb', hz'⟩ := hs B ys T _ hb
    exact .own es cap sz B hne (h.mono hf) hz ⟨by rw [e]; exact ho.end_, ⟨ys', T, hb', by rw [hz']; exact hle⟩, ho.cap⟩
  | agg cs ys hl h ih =>
    intro hX
    refine .agg cs ys hl fun j c hj => ih j c hj fun B hB => hX B ?_
    have := pmL_get B cs ys 0 j c hj
    simp only [Nat.zero_add] at this
    simp only [pm]; omega
  | tup cs ys hl h ih =>
    intro hX
    refine .tup cs ys hl fun j c hj => ih j c hj fun B hB => hX B ?_
    have := pmL_get B cs ys 0 j c hj
    simp only [Nat.zero_add] at this
    simp only [pm]; omega
  | lptr b j B h => exact fun _ => .lptr b j B (hg.lam b B h)
  | ptr b j B hs' h => exact fun _ => .ptr b j B (hg.pt b B hs' h).1 (hg.pt b B hs' h).2
  | aptr b i j ver sz n y hyy hs' hv h =>
    intro _
    obtain ⟨n', e1, l1, f1⟩ := hg.sh b sz n hs'
    refine .aptr b i j ver sz n' y hyy e1 (Nat.le_trans hv l1) fun e => ?_
    obtain ⟨B, hB, hy⟩ := h (Nat.le_antisymm hv (e ▸ l1))
    exact ⟨B, f1 (by omega) B hB, hy⟩
  | sl b off len ver sz n ad cap hl hs' hv h =>
    intro _
    obtain ⟨n', e1, l1, f1⟩ := hg.sh b sz n hs'
    refine .sl b off len ver sz n' ad cap hl e1 (Nat.le_trans hv l1) fun e => ?_
    obtain ⟨B, ys, T, hB, ha, hb, hsz⟩ := h (Nat.le_antisymm hv (e ▸ l1))
    obtain ⟨ys', hb', hz'⟩ := hs B ys T _ hb
    exact ⟨B, ys', T, f1 (by omega) B hB, ha, hb', by rw [hz']; exact hsz⟩
  | mp b R hs' h => exact fun _ => .mp b R (hg.pt b R hs' h).1 (hg.pt b R hs' h).2
  | clo f fs bs xs ys ha hb o1 o2 h1 h2 ih1 ih2 =>
    intro _
    exact .clo f fs bs xs ys ha hb o1 o2 (fun j c hj => ih1 j c hj fun B hB => by
        have := pmL_get B fs xs 0 j c hj
        rw [Nat.zero_add, o1 B] at this; omega)
      (fun j c hj => ih2 j c hj fun B hB => by
        have := pmL_get B bs ys 0 j c hj
        rw [Nat.zero_add, o2 B] at this; omega)
  | und y => exact fun _ => .und y
  | nov => exact fun _ => .nov

theorem mapO_some {α β : Type} {f : α → Option β} : ∀ {l : List α} {r : List β}, mapO f l = some r → r.length = l.length ∧ ∀ (j : Nat) (x : α), l[j]? = some x → ∃ y, r[j]? = some y ∧ f x = some y
  | [], r, h => by simp [mapO] at h; subst h; simp
  | x :: xs, r, h => by
    simp only [mapO] at h
    split at h
    · rename_i y ys h1 h2
      simp only [Option.some.injEq] at h; subst h
      obtain ⟨hl, hg⟩ := mapO_some h2
      refine ⟨by simp [hl], fun j z hj => ?_⟩
      cases j with
      | zero => simp at hj; subst hj; exact ⟨y, by simp, h1⟩
      | succ j => obtain ⟨u, e1, e2⟩ := hg j z (by simpa using hj); exact ⟨u, by simpa using e1, e2⟩
    · simp at h

theorem isP_some {v : V} {x : PV} (h : v.isP = some x) : v = .p x := by
  cases v <;> simp [V.isP] at h
  subst h; rfl

theorem allP {cs : List V} {ps : List PV} (h : mapO V.isP cs = some ps) : cs = ps.map V.p := by
  obtain ⟨hl, hg⟩ := mapO_some h
  refine List.ext_getElem (by simp [hl]) fun j h1 h2 => ?_
  obtain ⟨y, e1, e2⟩ := hg j cs[j] (List.getElem?_eq_getElem h1)
  rw [isP_some e2]
  have : ps[j]'(by simpa using h2) = y := by
    have := List.getElem?_eq_getElem (l := ps) (i := j) (by simpa using h2)
    rw [this] at e1; simpa using e1
  simp [this]

theorem RepV.p_inv {g : Gh} {w : World} {x : PV} {y : Value} (h : RepV g w (.p x) y) : RepP w g.X x y := by cases h; assumption

theorem RepV.mkAgg {g : Gh} {w : World} {cs : List V} {y : Value} (h : RepV g w (.agg cs) y) : RepV g w (mkAgg cs) y := by
  unfold Wn.mkAgg
  split
  · rename_i ps hp
    have e := allP hp
    subst e
    cases h with
    | agg _ ys hl h =>
      refine .p _ _ (.agg ps ys (by simpa using hl) fun j c hj => (h j (.p c) ?_).p_inv)
      simp [List.getElem?_map, hj]
  · exact h

theorem hasOwn_mkAgg (cs : List V) : hasOwn (mkAgg cs) = hasOwnL cs := by
  unfold Wn.mkAgg
  split
  · rename_i ps hp
    have e := allP hp
    subst e
    have : ∀ l : List PV, hasOwnL (l.map V.p) = false := by intro l; induction l with
      | nil => rfl
      | cons x xs ih => simp [hasOwnL, hasOwn, ih]
    simp [hasOwn, this]
  · rfl

mutual
theorem hasOwn_cp : ∀ v : V, hasOwn (cp v) = false
  | .p _ => rfl
  | .own _ => rfl
  | .agg cs => by simp only [cp, hasOwn_mkAgg]; exact hasOwnL_cp cs
  | .tup cs => by simp only [cp, hasOwn]; exact hasOwnL_cp cs
  | .lptr _ _ => rfl
  | .ptr _ _ => rfl
  | .aptr _ _ _ _ => rfl
  | .sl _ _ _ _ => rfl
  | .mp _ => rfl
  | .clo _ _ _ => rfl
  | .ifc _ _ => rfl
  | .und => rfl
  | .nov => rfl
theorem hasOwnL_cp : ∀ cs : List V, hasOwnL (cpL cs) = false
  | [] => rfl
  | c :: cs => by simp only [cpL, hasOwnL, hasOwn_cp c, hasOwnL_cp cs, Bool.or_self]
end

theorem cpL_get : ∀ (cs : List V) (j : Nat), (cpL cs)[j]? = (cs[j]?).map cp
  | [], j => by simp [cpL]
  | c :: cs, 0 => by simp [cpL]
  | c :: cs, j + 1 => by simpa [cpL] using cpL_get cs j

theorem cpL_length : ∀ (cs : List V), (cpL cs).length = cs.length
  | [] => rfl
  | c :: cs => by simp [cpL, cpL_length cs]

theorem RepV.cp {g : Gh} {w : World} {v : V} {y : Value} (h : RepV g w v y) : RepV g w (cp v) y := by
  induction h with
  | p x y h => exact .p x y h
  | own0 a => exact .p _ _ (.lst [] a 0 0 0 0 (fun _ _ => undef) (.inl rfl) (by simp) (by simp) (by simp) (by simp))
  | own es cap sz B hne h hz ho => exact .p _ _ h
  | agg cs ys hl h ih =>
    refine RepV.mkAgg (.agg _ ys (by rw [cpL_length]; exact hl) fun j c hj => ?_)
    rw [cpL_get] at hj
    cases hc : cs[j]? with
    | none => simp [hc] at hj
    | some d => simp [hc] at hj; subst hj; exact ih j d hc
  | tup cs ys hl h ih =>
    refine .tup _ ys (by rw [cpL_length]; exact hl) fun j c hj => ?_
    rw [cpL_get] at hj
    cases hc : cs[j]? with
    | none => simp [hc] at hj
    | some d => simp [hc] at hj; subst hj; exact ih j d hc
  | lptr b j B h => exact .lptr b j B h
  | ptr b j B hs h => exact .ptr b j B hs h
  | aptr b i j ver sz n y hy hs hv h => exact .aptr b i j ver sz n y hy hs hv h
  | sl b off len ver sz n ad cap hl hs hv h => exact .sl b off len ver sz n ad cap hl hs hv h
  | mp b R hs h => exact .mp b R hs h
  | clo f fs bs xs ys ha hb o1 o2 h1 h2 => exact .clo f fs bs xs ys ha hb o1 o2 h1 h2
  | und y => exact .und y
  | nov => exact .nov

/-- finite sums -/
def Sm : Nat → (Nat → Nat) → Nat
  | 0, _ => 0
  | n + 1, f => Sm n f + f n

theorem Sm_congr {n : Nat} {f f' : Nat → Nat} (h : ∀ i, i < n → f' i = f i) : Sm n f' = Sm n f := by
  induction n with
  | zero => rfl
  | succ n ih => simp only [Sm]; rw [ih (fun i hi => h i (by omega)), h n (by omega)]

theorem Sm_le {n : Nat} {f f' : Nat → Nat} (h : ∀ i, i < n → f' i ≤ f i) : Sm n f' ≤ Sm n f := by
  induction n with
  | zero => exact Nat.le_refl _
  | succ n ih => simp only [Sm]; have := ih (fun i hi => h i (by omega)); have := h n (by omega); omega

theorem Sm_upd {n d : Nat} {f f' : Nat → Nat} (hd : d < n) (h : ∀ i, i ≠ d → f' i = f i) : Sm n f' + f d = Sm n f + f' d := by
  induction n with
  | zero => omega
  | succ n ih =>
    simp only [Sm]
    by_cases e : d = n
    · subst e
      rw [Sm_congr (n := d) (f := f) (f' := f') (fun i hi => h i (by omega))]; omega
    · have := ih (by omega); rw [h n (by omega)]; omega

theorem Sm_get {n d : Nat} {f : Nat → Nat} (hd : d < n) : f d ≤ Sm n f := by
  induction n with
  | zero => omega
  | succ n ih =>
    simp only [Sm]
    by_cases e : d = n
    · subst e; omega
    · have := ih (by omega); omega

end Go.Wn

namespace Go.Wn
open Go

/-- the cells of a block -/
def conc (w : World) (R : Nat) : Array Value :=
  match w.heap[R]? with
  | some (.cells ys _ _) => ys
  | _ => #[]

def BlkRel (g : Gh) (w : World) (R : Nat) : Blk → Prop
  | .var cs => ∃ ys T, w.heap[R]? = some (.cells ys T (0, 0)) ∧ ys.size = cs.length ∧ ∀ (j : Nat) (c : V), cs[j]? = some c → RepV g w c (ys.getD j undef)
  | .arr sz rs => ∃ ys T cap, w.heap[R]? = some (.cells ys T (0, 0)) ∧ ys.size = cap * sz ∧ rs.length ≤ cap ∧ 0 < sz ∧
      ∀ (i : Nat) (r : List V), rs[i]? = some r → r.length = sz ∧ ∀ (j : Nat) (c : V), r[j]? = some c → RepV g w c (ys.getD (i * sz + j) undef)
  | .map ks vs => ∃ es ck, w.heap[R]? = some (.map es ck) ∧ es.size = ks.length ∧ vs.length = ks.length ∧ hasOwnL vs = false ∧
      (∀ (i : Nat) (k : PV), ks[i]? = some k → RepP w g.X k (es.getD i default).key) ∧ ∀ (i : Nat) (v : V), vs[i]? = some v → RepV g w v (es.getD i default).val

def bcnt (B : Nat) (w : World) (R : Nat) : Blk → Nat
  | .var cs => pmL B cs (conc w R) 0
  | .arr sz rs => Sm rs.length fun i => pmL B (rs.getD i []) (conc w R) (i * sz)
  | .map _ _ => 0

def hterm (B : Nat) (w : World) (h : Heap) (ρ : List (Option Nat)) (b : Nat) : Nat :=
  match ρ.getD b none with
  | some R => (if R = B then 1 else 0) + bcnt B w R (h.getD b default)
  | none => 0

def hcnt (B : Nat) (w : World) (h : Heap) (ρ : List (Option Nat)) : Nat := Sm h.length (hterm B w h ρ)

def lterm (B : Nat) (w : World) (lm : List (List V)) (lam : List Nat) (b : Nat) : Nat :=
  (if lam.getD b 0 = B then 1 else 0) + pmL B (lm.getD b []) (conc w (lam.getD b 0)) 0

def lcnt (B : Nat) (w : World) (lm : List (List V)) (lam : List Nat) : Nat := Sm lm.length (lterm B w lm lam)

def fcnt (B : Nat) (fr : Fr) (tm : Array Value) : Nat := Sm tm.size fun t => pm B (rd fr t) (tm.getD t undef)

structure HeapRel (g : Gh) (w : World) (h : Heap) : Prop where
  sh : g.sh = shp h
  len : g.ρ.length = h.length
  blk : ∀ (b : Nat) (x : Blk) (R : Nat), h[b]? = some x → g.ρ[b]? = some (some R) → g.X R = 0 ∧ BlkRel g w R x
  un : ∀ (b : Nat), g.ρ[b]? = some none → h[b]? = some (.var (g.z b).1)
  new : ∀ B, w.heap.size ≤ B → g.X B = 0

structure LmRel (g : Gh) (w : World) (lm : List (List V)) : Prop where
  len : g.lam.length = lm.length
  box : ∀ (b : Nat) (cs : List V) (R : Nat), lm[b]? = some cs → g.lam[b]? = some R → g.X R = 0 ∧ BlkRel g w R (.var cs)

def FrRel (g : Gh) (w : World) (fr : Fr) (tm : Array Value) : Prop := ∀ t, RepV g w (rd fr t) (tm.getD t undef)

/-- what is counted in D stays as it is -/
def Kp (D : Nat → Nat) (w w' : World) (X X' : Nat → Nat) : Prop := ∀ B, 0 < D B → w'.heap[B]? = w.heap[B]? ∧ X' B = X B

theorem conc_eq {w w' : World} {R : Nat} (h : w'.heap[R]? = w.heap[R]?) : conc w' R = conc w R := by unfold conc; rw [h]

mutual
theorem pmTN (B : Nat) : ∀ v : V, pm B v (.tuple #[]) = 0
  | .tup cs => by simp only [pm]; exact pmLN B cs 0
  | .p x => pm_p B x _
  | .own _ => by simp [pm]
  | .agg _ => by simp [pm]
  | .lptr _ _ => by simp [pm]
  | .ptr _ _ => by simp [pm]
  | .aptr _ _ _ _ => by simp [pm]
  | .sl _ _ _ _ => by simp [pm]
  | .mp _ => by simp [pm]
  | .clo _ _ _ => by simp [pm]
  | .ifc _ _ => by simp [pm]
  | .und => by simp [pm]
  | .nov => by simp [pm]
theorem pmLN (B : Nat) : ∀ (cs : List V) (k : Nat), pmL B cs #[] k = 0
  | [], _ => rfl
  | c :: cs, k => by
    simp only [pmL]
    have : (#[] : Array Value).getD k undef = .tuple #[] := by simp [undef]
    rw [this, pmTN B c, pmLN B cs (k + 1)]
end

theorem pm_tuple0 (B : Nat) (v : V) : pm B v undef = 0 := pmTN B v

theorem FrRel.mono {g g' : Gh} {w w' : World} {fr : Fr} {tm : Array Value} (hf : Fzn w w' g.X g'.X) (hs : Shp w w') (hg : GhLe0 g g')
    (hk : Kp (fun B => fcnt B fr tm) w w' g.X g'.X) (h : FrRel g w fr tm) : FrRel g' w' fr tm := fun t => by
  refine (h t).mono hf hs hg fun B hB => ?_
  rcases Nat.lt_or_ge t tm.size with ht | ht
  · exact (hk B (Nat.lt_of_lt_of_le hB (Sm_get (f := fun t => pm B (rd fr t) (tm.getD t undef)) ht))).2
  · have : tm.getD t undef = undef := by simp [Array.getD_eq_getD_getElem?, Array.getElem?_eq_none ht]
    rw [this, pm_tuple0] at hB
    omega

theorem pmL_get0 (B : Nat) {cs : List V} {ys : Array Value} {j : Nat} {c : V} (h : cs[j]? = some c) : pm B c (ys.getD j undef) ≤ pmL B cs ys 0 := by
  have := pmL_get B cs ys 0 j c h
  simpa using this

theorem BlkRel.mono {g g' : Gh} {w w' : World} {R : Nat} {x : Blk} (hf : Fzn w w' g.X g'.X) (hs : Shp w w') (hg : GhLe0 g g')
    (hR : w'.heap[R]? = w.heap[R]?) (hk : ∀ B, 0 < bcnt B w R x → g'.X B = g.X B) (h : BlkRel g w R x) : BlkRel g' w' R x := by
  cases x with
  | var cs =>
    obtain ⟨ys, T, hb, hl, hc⟩ := h
    refine ⟨ys, T, by rw [hR]; exact hb, hl, fun j c hj => (hc j c hj).mono hf hs hg fun B hB => hk B ?_⟩
    have := pmL_get0 B (ys := ys) hj
    simp only [bcnt, conc, hb]; omega
  | arr sz rs =>
    obtain ⟨ys, T, cap, hb, hl, hle, hz, hc⟩ := h
    refine ⟨ys, T, cap, by rw [hR]; exact hb, hl, hle, hz, fun i r hi => ⟨(hc i r hi).1, fun j c hj => ((hc i r hi).2 j c hj).mono hf hs hg fun B hB => hk B ?_⟩⟩
    have h1 := pmL_get B r ys (i * sz) j c hj
    have hi' : i < rs.length := by
      rcases Nat.lt_or_ge i rs.length with h | h
      · exact h
      · rw [List.getElem?_eq_none h] at hi; cases hi
    have h2 := Sm_get (n := rs.length) (d := i) (f := fun i => pmL B (rs.getD i []) ys (i * sz)) hi'
    have h3 : rs.getD i [] = r := by simp [List.getD, hi]
    simp only [h3] at h2
    simp only [bcnt, conc, hb]; omega
  | map ks vs =>
    obtain ⟨es, ck, hb, h1, h2, h3, h4, h5⟩ := h
    exact ⟨es, ck, by rw [hR]; exact hb, h1, h2, h3, fun i k hk => (h4 i k hk).mono hf,
      fun i v hv => (h5 i v hv).mono hf hs hg fun B hB => by rw [pm_noown B v _ (hasOwnL_get vs i v h3 hv)] at hB; omega⟩

theorem hterm_some {B : Nat} {w : World} {h : Heap} {ρ : List (Option Nat)} {b R : Nat} {x : Blk} (hx : h[b]? = some x) (hr : ρ[b]? = some (some R)) :
    hterm B w h ρ b = (if R = B then 1 else 0) + bcnt B w R x := by
  simp [hterm, List.getD, hx, hr]

theorem lt_of_get {α : Type} {l : List α} {b : Nat} {x : α} (h : l[b]? = some x) : b < l.length := by
  rcases Nat.lt_or_ge b l.length with h' | h'
  · exact h'
  · rw [List.getElem?_eq_none h'] at h; cases h

theorem HeapRel.mono {g g' : Gh} {w w' : World} {h : Heap} (hr : HeapRel g w h) (hf : Fzn w w' g.X g'.X) (hs : Shp w w') (hg : GhLe g g')
    (hρ : g'.ρ = g.ρ) (hsh : g'.sh = g.sh) (hn : ∀ B, w'.heap.size ≤ B → g'.X B = 0)
    (hk : Kp (fun B => hcnt B w h g.ρ) w w' g.X g'.X) : HeapRel g' w' h where
  sh := by rw [hsh]; exact hr.sh
  len := by rw [hρ]; exact hr.len
  un := fun b e => by
    rw [hρ] at e
    rw [(hg.un b e).2]; exact hr.un b e
  new := hn
  blk := fun b x R hx hR => by
    rw [hρ] at hR
    obtain ⟨h0, h1⟩ := hr.blk b x R hx hR
    have hb := lt_of_get hx
    have hge : ∀ B, (if R = B then 1 else 0) + bcnt B w R x ≤ hcnt B w h g.ρ := fun B => by
      rw [← hterm_some hx hR]; exact Sm_get hb
    have hkR := hk R (by show 0 < hcnt R w h g.ρ; have := hge R; simp at this; omega)
    exact ⟨by rw [hkR.2]; exact h0, h1.mono hf hs hg hkR.1 fun B hB => (hk B (by show 0 < hcnt B w h g.ρ; have := hge B; omega)).2⟩

theorem LmRel.mono {g g' : Gh} {w w' : World} {lm : List (List V)} (hr : LmRel g w lm) (hf : Fzn w w' g.X g'.X) (hs : Shp w w') (hg : GhLe0 g g')
    (hl : g'.lam = g.lam) (hk : Kp (fun B => lcnt B w lm g.lam) w w' g.X g'.X) : LmRel g' w' lm where
  len := by rw [hl]; exact hr.len
  box := fun b cs R hx hR => by
    rw [hl] at hR
    obtain ⟨h0, h1⟩ := hr.box b cs R hx hR
    have hb := lt_of_get hx
    have hge : ∀ B, (if R = B then 1 else 0) + pmL B cs (conc w R) 0 ≤ lcnt B w lm g.lam := fun B => by
      have := Sm_get (n := lm.length) (d := b) (f := lterm B w lm g.lam) hb
      simp only [lterm, List.getD, hx, hR, Option.getD_some] at this
      exact this
    have hkR := hk R (by show 0 < lcnt R w lm g.lam; have := hge R; simp at this; omega)
    exact ⟨by rw [hkR.2]; exact h0, h1.mono hf hs hg hkR.1 fun B hB => (hk B (by show 0 < lcnt B w lm g.lam; have := hge B; simp only [bcnt] at hB; omega)).2⟩

end Go.Wn

namespace Go.Wn
open Go

structure Rel (Cx : Nat → Nat) (g : Gh) (w : World) (tm : Array Value) (fr : Fr) (m : Mem) : Prop where
  hp : HeapRel g w m.h
  lm : LmRel g w m.lm
  frm : FrRel g w fr tm
  one : ∀ B, fcnt B fr tm + lcnt B w m.lm g.lam + hcnt B w m.h g.ρ + Cx B ≤ 1
  cnew : ∀ B, w.heap.size ≤ B → Cx B = 0

/-- the same, beside a value -/
structure RelV (Cx : Nat → Nat) (g : Gh) (w : World) (tm : Array Value) (fr : Fr) (m : Mem) (v : V) (y : Value) : Prop where
  hp : HeapRel g w m.h
  lm : LmRel g w m.lm
  frm : FrRel g w fr tm
  one : ∀ B, fcnt B fr tm + lcnt B w m.lm g.lam + hcnt B w m.h g.ρ + pm B v y + Cx B ≤ 1
  cnew : ∀ B, w.heap.size ≤ B → Cx B = 0
  val : RepV g w v y

theorem RelV.rel {Cx : Nat → Nat} {g : Gh} {w : World} {tm : Array Value} {fr : Fr} {m : Mem} {v : V} {y : Value} (h : RelV Cx g w tm fr m v y) : Rel Cx g w tm fr m :=
  ⟨h.hp, h.lm, h.frm, fun B => by have := h.one B; omega, h.cnew⟩

theorem Rel.withV {Cx : Nat → Nat} {g : Gh} {w : World} {tm : Array Value} {fr : Fr} {m : Mem} (h : Rel Cx g w tm fr m) {v : V} {y : Value} (hv : RepV g w v y) (ho : hasOwn v = false) :
    RelV Cx g w tm fr m v y :=
  ⟨h.hp, h.lm, h.frm, fun B => by have := h.one B; rw [pm_noown B v y ho]; omega, h.cnew, hv⟩

/-- one step of the machine, as those see it whose blocks are counted in D -/
structure Stp (D : Nat → Nat) (g : Gh) (w : World) (g' : Gh) (w' : World) : Prop where
  fz : Fzn w w' g.X g'.X
  sh : Shp w w'
  kp : Kp D w w' g.X g'.X
  ge : GhLe g g'
  os : w'.os = w.os
  tape : w'.tape = w.tape
  output : w'.output = w.output
  size : w.heap.size ≤ w'.heap.size

theorem Stp.refl (D : Nat → Nat) (g : Gh) (w : World) : Stp D g w g w := ⟨.refl w g.X, .refl w, fun _ _ => ⟨rfl, rfl⟩, .refl g, rfl, rfl, rfl, Nat.le_refl _⟩
theorem Stp.trans {D : Nat → Nat} {g g1 g2 : Gh} {w w1 w2 : World} (h : Stp D g w g1 w1) (k : Stp D g1 w1 g2 w2) : Stp D g w g2 w2 :=
  ⟨h.fz.trans k.fz, h.sh.trans k.sh, fun B hB => ⟨(k.kp B hB).1.trans (h.kp B hB).1, (k.kp B hB).2.trans (h.kp B hB).2⟩, h.ge.trans k.ge, k.os.trans h.os, k.tape.trans h.tape, k.output.trans h.output, Nat.le_trans h.size k.size⟩
theorem Stp.mono {D D' : Nat → Nat} {g g1 : Gh} {w w1 : World} (h : Stp D g w g1 w1) (hd : ∀ B, D' B ≤ D B) : Stp D' g w g1 w1 :=
  { h with kp := fun B hB => h.kp B (Nat.lt_of_lt_of_le hB (hd B)) }

theorem fcnt_setF {B : Nat} {fr : Fr} {tm : Array Value} {d : Nat} {v : V} {y : Value} (hd : d < tm.size) :
    fcnt B (setF fr d v) (tm.setIfInBounds d y) + pm B (rd fr d) (tm.getD d undef) = fcnt B fr tm + pm B v y := by
  unfold fcnt
  rw [Array.size_setIfInBounds]
  have h := Sm_upd (n := tm.size) (d := d) (f := fun t => pm B (rd fr t) (tm.getD t undef)) (f' := fun t => pm B (rd (setF fr d v) t) ((tm.setIfInBounds d y).getD t undef)) hd (fun i hi => by
    have h1 : rd (setF fr d v) i = rd fr i := by
      simp only [rd, setF, look]
      have : Nat.beq d i = false := by
        cases e : Nat.beq d i with
        | false => rfl
        | true => exact absurd (Nat.eq_of_beq_eq_true e).symm hi
      simp [this]
    have h2 : (tm.setIfInBounds d y).getD i undef = tm.getD i undef := by
      simp only [Array.getD_eq_getD_getElem?]
      rw [Array.getElem?_setIfInBounds_ne (Ne.symm hi)]
    simp only [h1, h2])
  have h1 : rd (setF fr d v) d = v := by simp [rd, setF, look]
  have h2 : (tm.setIfInBounds d y).getD d undef = y := by
    simp [Array.getD_eq_getD_getElem?, hd]
  rw [h1, h2] at h
  exact h

theorem rd_setF (fr : Fr) (d : Nat) (v : V) (t : Nat) : rd (setF fr d v) t = if d = t then v else rd fr t := by
  simp only [rd, setF, look]
  by_cases h : d = t
  · subst h; simp
  · have : Nat.beq d t = false := by
      cases e : Nat.beq d t with
      | false => rfl
      | true => exact absurd (Nat.eq_of_beq_eq_true e) h
    simp [this, h]

/-- a value is put into a slot -/
theorem RelV.put {Cx : Nat → Nat} {g : Gh} {w : World} {tm : Array Value} {fr : Fr} {m : Mem} {v : V} {y : Value} (h : RelV Cx g w tm fr m v y) {d : Nat} (hd : d < tm.size) :
    Rel Cx g w (tm.setIfInBounds d y) (setF fr d v) m where
  hp := h.hp
  lm := h.lm
  cnew := h.cnew
  one := fun B => by
    have h1 := h.one B
    have h2 := fcnt_setF (B := B) (fr := fr) (tm := tm) (d := d) (v := v) (y := y) hd
    omega
  frm := fun t => by
    rw [rd_setF]
    by_cases e : d = t
    · subst e
      simp only [if_true]
      have : (tm.setIfInBounds d y).getD d undef = y := by simp [Array.getD_eq_getD_getElem?, hd]
      rw [this]; exact h.val
    · simp only [e, if_false]
      have : (tm.setIfInBounds d y).getD t undef = tm.getD t undef := by
        simp only [Array.getD_eq_getD_getElem?]
        rw [Array.getElem?_setIfInBounds_ne e]
      rw [this]; exact h.frm t

/-- the right to append is taken out of a slot -/
theorem Rel.takeSlot {Cx : Nat → Nat} {g : Gh} {w : World} {tm : Array Value} {fr : Fr} {m : Mem} (h : Rel Cx g w tm fr m) {t : Nat} (ht : t < tm.size) :
    RelV Cx g w tm (setF fr t (cp (rd fr t))) m (rd fr t) (tm.getD t undef) where
  hp := h.hp
  lm := h.lm
  cnew := h.cnew
  val := h.frm t
  one := fun B => by
    have h1 := h.one B
    have h2 := fcnt_setF (B := B) (fr := fr) (tm := tm) (d := t) (v := cp (rd fr t)) (y := tm.getD t undef) ht
    have h3 : tm.setIfInBounds t (tm.getD t undef) = tm := by
      apply Array.ext
      · simp
      · intro i h1 h2
        by_cases e : t = i
        · subst e; simp [Array.getD_eq_getD_getElem?, ht]
        · rw [Array.getElem_setIfInBounds_ne _ e]
    rw [h3, pm_noown B _ _ (hasOwn_cp _)] at h2
    omega
  frm := fun i => by
    rw [rd_setF]
    by_cases e : t = i
    · subst e; simp only [if_true]; exact (h.frm t).cp
    · simp only [e, if_false]; exact h.frm i

theorem pmL_shift (B : Nat) : ∀ (cs : List V) (ys : Array Value) (k : Nat), pmL B cs ys k = pmL B cs (ys.extract k ys.size) 0
  | cs, ys, k => by
    have key : ∀ (cs : List V) (j : Nat), pmL B cs ys (k + j) = pmL B cs (ys.extract k ys.size) j := by
      intro cs
      induction cs with
      | nil => intro j; simp [pmL]
      | cons c cs ih =>
        intro j
        simp only [pmL]
        rw [show k + j + 1 = k + (j + 1) from by omega, ih (j + 1)]
        congr 1
        have : (ys.extract k ys.size).getD j undef = ys.getD (k + j) undef := by
          simp only [Array.getD_eq_getD_getElem?, Array.getElem?_extract]
          split
          · rfl
          · rename_i hlt
            rw [Array.getElem?_eq_none (by omega)]
        rw [this]
    simpa using key cs 0

end Go.Wn

namespace Go.Wn
open Go

theorem Sm_pos {n : Nat} {f : Nat → Nat} (h : 0 < Sm n f) : ∃ i, i < n ∧ 0 < f i := by
  induction n with
  | zero => simp [Sm] at h
  | succ n ih =>
    simp only [Sm] at h
    by_cases e : 0 < f n
    · exact ⟨n, by omega, e⟩
    · obtain ⟨i, h1, h2⟩ := ih (by omega); exact ⟨i, by omega, h2⟩

theorem pmL_pos (B : Nat) : ∀ (cs : List V) (ys : Array Value) (k : Nat), 0 < pmL B cs ys k → ∃ j c, cs[j]? = some c ∧ 0 < pm B c (ys.getD (k + j) undef)
  | [], _, _, h => by simp [pmL] at h
  | c :: cs, ys, k, h => by
    simp only [pmL] at h
    by_cases e : 0 < pm B c (ys.getD k undef)
    · exact ⟨0, c, by simp, by simpa using e⟩
    · obtain ⟨j, d, h1, h2⟩ := pmL_pos B cs ys (k + 1) (by omega)
      exact ⟨j + 1, d, by simpa using h1, by rw [show k + (j + 1) = k + 1 + j from by omega]; exact h2⟩

theorem lt_size {w : World} {R : Nat} {o : Obj} (h : w.heap[R]? = some o) : R < w.heap.size := by
  rcases Nat.lt_or_ge R w.heap.size with h' | h'
  · exact h'
  · rw [Array.getElem?_eq_none h'] at h; cases h

theorem RepV.pm_lt {g : Gh} {w : World} {B : Nat} {v : V} {y : Value} (h : RepV g w v y) : 0 < pm B v y → B < w.heap.size := by
  induction h with
  | own es cap sz R hne h hz ho =>
    intro hp
    obtain ⟨ys, T, hb, _⟩ := ho.blk
    have : R = B := by
      simp only [pm] at hp
      split at hp
      · rename_i h; exact h.2
      · omega
    subst this
    exact lt_size hb
  | agg cs ys hl h ih =>
    intro hp
    simp only [pm] at hp
    obtain ⟨j, c, hj, hc⟩ := pmL_pos B cs ys 0 hp
    rw [Nat.zero_add] at hc
    exact ih j c hj hc
  | tup cs ys hl h ih =>
    intro hp
    simp only [pm] at hp
    obtain ⟨j, c, hj, hc⟩ := pmL_pos B cs ys 0 hp
    rw [Nat.zero_add] at hc
    exact ih j c hj hc
  | p x y h => intro hp; rw [pm_p] at hp; omega
  | own0 a => intro hp; cases a <;> simp [pm] at hp
  | lptr b j R h => intro hp; simp [pm] at hp
  | ptr b j R hs h => intro hp; simp [pm] at hp
  | aptr b i j ver sz n y hy hs hv h => intro hp; cases y <;> simp [pm] at hp
  | sl b off len ver sz n ad cap hl hs hv h => intro hp; simp [pm] at hp
  | mp b R hs h => intro hp; simp [pm] at hp
  | clo f fs bs xs ys ha hb o1 o2 h1 h2 => intro hp; simp [pm] at hp
  | und y => intro hp; cases y <;> simp [pm] at hp
  | nov => intro hp; simp [pm] at hp

theorem BlkRel.lt {g : Gh} {w : World} {R : Nat} {x : Blk} (h : BlkRel g w R x) : R < w.heap.size := by
  cases x with
  | var cs => obtain ⟨ys, T, hb, _⟩ := h; exact lt_size hb
  | arr sz rs => obtain ⟨ys, T, cap, hb, _⟩ := h; exact lt_size hb
  | map ks vs => obtain ⟨es, ck, hb, _⟩ := h; exact lt_size hb

theorem BlkRel.cnt_lt {g : Gh} {w : World} {R B : Nat} {x : Blk} (h : BlkRel g w R x) (hp : 0 < bcnt B w R x) : B < w.heap.size := by
  cases x with
  | var cs =>
    obtain ⟨ys, T, hb, hl, hc⟩ := h
    simp only [bcnt, conc, hb] at hp
    obtain ⟨j, c, hj, hp⟩ := pmL_pos B cs ys 0 hp
    rw [Nat.zero_add] at hp
    exact (hc j c hj).pm_lt hp
  | arr sz rs =>
    obtain ⟨ys, T, cap, hb, hl, hle, hz, hc⟩ := h
    simp only [bcnt, conc, hb] at hp
    obtain ⟨i, hi, hp⟩ := Sm_pos hp
    obtain ⟨j, c, hj, hp⟩ := pmL_pos B _ ys _ hp
    have e : rs.getD i [] = rs[i] := by simp [List.getD, hi]
    rw [e] at hj
    exact ((hc i rs[i] (by simp [hi])).2 j c hj).pm_lt hp
  | map ks vs => simp [bcnt] at hp

theorem HeapRel.cnt_lt {g : Gh} {w : World} {h : Heap} (hr : HeapRel g w h) {B : Nat} (hp : 0 < hcnt B w h g.ρ) : B < w.heap.size := by
  obtain ⟨b, hb, hp⟩ := Sm_pos hp
  obtain ⟨x, hx⟩ : ∃ x, h[b]? = some x := ⟨h[b], by simp [hb]⟩
  cases hR : g.ρ[b]? with
  | none => simp [hterm, List.getD, hR] at hp
  | some r =>
    cases r with
    | none => simp [hterm, List.getD, hR] at hp
    | some R =>
      rw [hterm_some hx hR] at hp
      obtain ⟨h0, h1⟩ := hr.blk b x R hx hR
      by_cases e : R = B
      · subst e; exact h1.lt
      · simp [e] at hp; exact h1.cnt_lt hp

theorem LmRel.cnt_lt {g : Gh} {w : World} {lm : List (List V)} (hr : LmRel g w lm) {B : Nat} (hp : 0 < lcnt B w lm g.lam) : B < w.heap.size := by
  obtain ⟨b, hb, hp⟩ := Sm_pos hp
  obtain ⟨x, hx⟩ : ∃ x, lm[b]? = some x := ⟨lm[b], by simp [hb]⟩
  obtain ⟨R, hR⟩ : ∃ R, g.lam[b]? = some R := ⟨g.lam[b]'(by rw [hr.len]; exact hb), by simp [hr.len, hb]⟩
  obtain ⟨h0, h1⟩ := hr.box b x R hx hR
  simp only [lterm, List.getD, hx, hR, Option.getD_some] at hp
  by_cases e : R = B
  · subst e; exact h1.lt
  · simp [e] at hp; exact h1.cnt_lt (by simpa [bcnt] using hp)

theorem FrRel.cnt_lt {g : Gh} {w : World} {fr : Fr} {tm : Array Value} (hr : FrRel g w fr tm) {B : Nat} (hp : 0 < fcnt B fr tm) : B < w.heap.size := by
  obtain ⟨t, ht, hp⟩ := Sm_pos hp
  exact (hr t).pm_lt hp

theorem hcnt_keep {B : Nat} {w w' : World} {h : Heap} {ρ : List (Option Nat)} (hk : ∀ (b R : Nat), b < h.length → ρ[b]? = some (some R) → w'.heap[R]? = w.heap[R]?) :
    hcnt B w' h ρ = hcnt B w h ρ := by
  refine Sm_congr fun b hb => ?_
  unfold hterm
  cases hR : ρ[b]? with
  | none => simp [List.getD, hR]
  | some r => cases r with
    | none => simp [List.getD, hR]
    | some R =>
      have := conc_eq (hk b R hb hR)
      simp only [List.getD, hR, Option.getD_some]
      cases (h[b]?).getD default <;> simp [bcnt, this]

theorem lcnt_keep {B : Nat} {w w' : World} {lm : List (List V)} {lam : List Nat} (hk : ∀ (b : Nat), b < lm.length → w'.heap[lam.getD b 0]? = w.heap[lam.getD b 0]?) :
    lcnt B w' lm lam = lcnt B w lm lam := by
  refine Sm_congr fun b hb => ?_
  unfold lterm
  rw [conc_eq (hk b hb)]

/-- counts of what is kept are kept -/
theorem HeapRel.cnt_keep {g : Gh} {w w' : World} {h : Heap} {X X' : Nat → Nat} (hk : Kp (fun B => hcnt B w h g.ρ) w w' X X') (B : Nat) : hcnt B w' h g.ρ = hcnt B w h g.ρ :=
  hcnt_keep fun b R hb hR => (hk R (by
    show 0 < hcnt R w h g.ρ
    have h1 := Sm_get (n := h.length) (d := b) (f := hterm R w h g.ρ) hb
    simp only [hterm, List.getD, hR, Option.getD_some, if_true] at h1
    unfold hcnt; omega)).1

theorem LmRel.cnt_keep {g : Gh} {w w' : World} {lm : List (List V)} {X X' : Nat → Nat} (hk : Kp (fun B => lcnt B w lm g.lam) w w' X X') (B : Nat) : lcnt B w' lm g.lam = lcnt B w lm g.lam :=
  lcnt_keep fun b hb => (hk (g.lam.getD b 0) (by
    show 0 < lcnt (g.lam.getD b 0) w lm g.lam
    have h1 := Sm_get (n := lm.length) (d := b) (f := lterm (g.lam.getD b 0) w lm g.lam) hb
    simp only [lterm, if_true] at h1
    unfold lcnt; omega)).1

/-- a whole state, carried over a step that leaves alone what it counts -/
theorem RelV.step {Cx : Nat → Nat} {g g' : Gh} {w w' : World} {tm : Array Value} {fr : Fr} {m : Mem} {v : V} {y : Value} (h : RelV Cx g w tm fr m v y)
    (hs : Stp (fun B => fcnt B fr tm + lcnt B w m.lm g.lam + hcnt B w m.h g.ρ + pm B v y + Cx B) g w g' w')
    (hρ : g'.ρ = g.ρ) (hsh : g'.sh = g.sh) (hl : g'.lam = g.lam) (hn : ∀ B, w'.heap.size ≤ B → g'.X B = 0) (hc : ∀ B, w'.heap.size ≤ B → Cx B = 0) : RelV Cx g' w' tm fr m v y := by
  have k1 : Kp (fun B => fcnt B fr tm) w w' g.X g'.X := (hs.mono fun B => by omega).kp
  have k2 : Kp (fun B => lcnt B w m.lm g.lam) w w' g.X g'.X := (hs.mono fun B => by omega).kp
  have k3 : Kp (fun B => hcnt B w m.h g.ρ) w w' g.X g'.X := (hs.mono fun B => by omega).kp
  have k4 : Kp (fun B => pm B v y) w w' g.X g'.X := (hs.mono fun B => by omega).kp
  refine ⟨h.hp.mono hs.fz hs.sh hs.ge hρ hsh hn k3, h.lm.mono hs.fz hs.sh hs.ge hl k2, h.frm.mono hs.fz hs.sh hs.ge k1, fun B => ?_, hc, h.val.mono hs.fz hs.sh hs.ge fun B hB => (k4 B hB).2⟩
  have := h.one B
  rw [hρ, hl, HeapRel.cnt_keep k3 B, LmRel.cnt_keep k2 B]
  exact this

theorem Rel.step {Cx : Nat → Nat} {g g' : Gh} {w w' : World} {tm : Array Value} {fr : Fr} {m : Mem} (h : Rel Cx g w tm fr m)
    (hs : Stp (fun B => fcnt B fr tm + lcnt B w m.lm g.lam + hcnt B w m.h g.ρ + Cx B) g w g' w')
    (hρ : g'.ρ = g.ρ) (hsh : g'.sh = g.sh) (hl : g'.lam = g.lam) (hn : ∀ B, w'.heap.size ≤ B → g'.X B = 0) (hc : ∀ B, w'.heap.size ≤ B → Cx B = 0) : Rel Cx g' w' tm fr m :=
  (RelV.step (h.withV .nov rfl) (hs.mono fun B => by rw [pm_noown B .nov undef rfl]; omega) hρ hsh hl hn hc).rel

theorem cell?_lt {w : World} {B o : Nat} {y : Value} (h : w.cell? ⟨B, o, none⟩ = some y) : B < w.heap.size := by
  unfold World.cell? at h
  cases e : w.heap[B]? with
  | none => simp [e] at h
  | some _ => exact lt_size e

theorem heap_alloc_lt (w : World) (o : Obj) {B : Nat} (h : B < w.heap.size) : (w.alloc o).heap[B]? = w.heap[B]? := by
  simp only [World.alloc]
  rw [Array.getElem?_push_lt h]
  simp [h]

theorem heap_alloc_at (w : World) (o : Obj) : (w.alloc o).heap[w.heap.size]? = some o := by
  show (w.heap.push o)[w.heap.size]? = some o
  simp

/-- a new block -/
theorem Stp.alloc {D : Nat → Nat} {g g' : Gh} {w : World} (o : Obj) (hX : ∀ B, B ≠ w.heap.size → g'.X B = g.X B) (ge : GhLe g g') (hD : ∀ B, w.heap.size ≤ B → D B = 0) :
    Stp D g w g' (w.alloc o) where
  fz := ⟨fun B i y hi hy => by
      have hb := cell?_lt hy
      refine ⟨by rw [hX B (by omega)]; exact hi, ?_⟩
      rw [World.cell?_alloc_lt w o _ hb]; exact hy, fun R es ck hm hx => by
      have hb := lt_size hm
      refine ⟨by rw [heap_alloc_lt w o hb]; exact hm, by rw [hX R (by omega)]; exact hx⟩⟩
  sh := fun B ys T fr hb => ⟨ys, by rw [heap_alloc_lt w o (lt_size hb)]; exact hb, rfl⟩
  kp := fun B hB => by
    have hb : B < w.heap.size := by
      rcases Nat.lt_or_ge B w.heap.size with h | h
      · exact h
      · have := hD B h; omega
    exact ⟨heap_alloc_lt w o hb, hX B (by omega)⟩
  ge := ge
  os := rfl
  tape := rfl
  output := rfl
  size := by simp

end Go.Wn

namespace Go.Wn
open Go

theorem RepP.one {w : World} {X : Nat → Nat} {x : PV} {y : Value} (h : RepP w X x y) (hc : ∀ cs, x ≠ .agg cs) : y.oneCell' = true := by
  cases h with
  | agg cs => exact absurd rfl (hc cs)
  | c x h => rcases h with rfl | rfl | rfl | rfl <;> rfl
  | _ => rfl

theorem RepV.one {g : Gh} {w : World} {v : V} {y : Value} (h : RepV g w v y) (hc : v.cellOk = true) : y.oneCell' = true := by
  cases h with
  | p x y h => exact h.one fun cs e => by subst e; simp [V.cellOk] at hc
  | aptr b i j ver sz n y hy hs hv h => obtain ⟨a, rfl⟩ := hy; rfl
  | agg => simp [V.cellOk] at hc
  | tup => simp [V.cellOk] at hc
  | und => simp [V.cellOk] at hc
  | nov => simp [V.cellOk] at hc
  | _ => rfl

theorem cells_one {y : Value} (h : y.oneCell' = true) : y.cells = #[y] := by
  cases y <;> simp_all [Value.cells, Value.oneCell']

/-- the cells of a value -/
theorem RepV.cells {g : Gh} {w : World} {v : V} {y : Value} (h : RepV g w v y) (hok : v.cells.all V.cellOk = true) :
    y.cells.size = v.cells.length ∧ (∀ (j : Nat) (c : V), v.cells[j]? = some c → RepV g w c (y.cells.getD j undef)) ∧ (∀ B, pmL B v.cells y.cells 0 = pm B v y) := by
  have single : v.cells = [v] → (y.cells.size = v.cells.length ∧ (∀ (j : Nat) (c : V), v.cells[j]? = some c → RepV g w c (y.cells.getD j undef)) ∧ (∀ B, pmL B v.cells y.cells 0 = pm B v y)) := by
    intro e
    rw [e] at hok
    have h1 := cells_one (h.one (by simpa using hok))
    rw [e, h1]
    refine ⟨rfl, fun j c hj => ?_, fun B => by simp [pmL]⟩
    cases j with
    | zero => simp at hj; subst hj; simpa using h
    | succ j => simp at hj
  cases h with
  | agg cs ys hl h => exact ⟨hl, h, fun B => by simp [V.cells, Value.cells, pm]⟩
  | p x y hp =>
    cases hp with
    | agg cs ys hl h =>
      refine ⟨by simpa [V.cells, Value.cells] using hl, fun j c hj => ?_, fun B => ?_⟩
      · simp only [V.cells, List.getElem?_map, Option.map_eq_some_iff] at hj
        obtain ⟨d, hd, rfl⟩ := hj
        exact .p _ _ (h j d hd)
      · rw [pm_p]
        refine pmL_noown B _ _ 0 ?_
        have : ∀ l : List PV, hasOwnL (l.map V.p) = false := by
          intro l
          induction l with
          | nil => rfl
          | cons x xs ih => simp [hasOwnL, hasOwn, ih]
        exact this cs
    | _ => exact single rfl
  | _ => exact single rfl

theorem shp_snoc {h : Heap} {x : Blk} {b : Nat} (hb : b < h.length) : shp (h ++ [x]) b = shp h b := by
  unfold shp
  rw [List.getElem?_append_left hb]

theorem shp_lt {h : Heap} {b : Nat} {z : Nat × Nat} (e : shp h b = some z) : b < h.length := by
  unfold shp at e
  rcases Nat.lt_or_ge b h.length with h' | h'
  · exact h'
  · rw [List.getElem?_eq_none h'] at e; simp at e

/-- ghost: one block of the heap more -/
def Gh.more (g : Gh) (h : Heap) (x : Blk) (R : Option Nat) : Gh := { g with ρ := g.ρ ++ [R], sh := shp (h ++ [x]) }

theorem GhLe.more {g : Gh} {h : Heap} {x : Blk} {R : Option Nat} (hs : g.sh = shp h) (hl : g.ρ.length = h.length) : GhLe g (g.more h x R) where
  un := fun b e => ⟨by simp only [Gh.more]; rw [List.getElem?_append_left (lt_of_get e)]; exact e, rfl⟩
  lam := fun _ _ e => e
  pt := fun b B e1 e2 => by
    have hb := lt_of_get e2
    refine ⟨by simp only [Gh.more]; rw [shp_snoc (by omega), ← hs]; exact e1, ?_⟩
    simp only [Gh.more]
    rw [List.getElem?_append_left hb]; exact e2
  sh := fun b sz n e => by
    rw [hs] at e
    have hb := shp_lt e
    refine ⟨n, by simp only [Gh.more]; rw [shp_snoc hb]; exact e, Nat.le_refl _, fun _ B hB => ?_⟩
    simp only [Gh.more]
    rw [List.getElem?_append_left (by omega)]; exact hB

theorem getD_snoc_lt {α : Type} {l : List α} {x d : α} {b : Nat} (h : b < l.length) : (l ++ [x]).getD b d = l.getD b d := by
  simp [List.getD, List.getElem?_append_left h]
theorem getD_snoc_at {α : Type} {l : List α} {x d : α} : (l ++ [x]).getD l.length d = x := by simp [List.getD]

theorem hcnt_snoc {B : Nat} {w : World} {h : Heap} {ρ : List (Option Nat)} {x : Blk} {R : Option Nat} (hl : ρ.length = h.length) :
    hcnt B w (h ++ [x]) (ρ ++ [R]) = hcnt B w h ρ + (match R with | some R => (if R = B then 1 else 0) + bcnt B w R x | none => 0) := by
  unfold hcnt
  rw [List.length_append, List.length_singleton]
  simp only [Sm]
  congr 1
  · refine Sm_congr fun b hb => ?_
    unfold hterm
    rw [getD_snoc_lt (by omega), getD_snoc_lt hb]
  · unfold hterm
    rw [show (ρ ++ [R]).getD h.length none = R from by rw [← hl]; exact getD_snoc_at, getD_snoc_at]
    all_goals (cases R <;> rfl)

theorem lcnt_snoc {B : Nat} {w : World} {lm : List (List V)} {lam : List Nat} {cs : List V} {R : Nat} (hl : lam.length = lm.length) :
    lcnt B w (lm ++ [cs]) (lam ++ [R]) = lcnt B w lm lam + ((if R = B then 1 else 0) + pmL B cs (conc w R) 0) := by
  unfold lcnt
  rw [List.length_append, List.length_singleton]
  simp only [Sm]
  congr 1
  · refine Sm_congr fun b hb => ?_
    unfold lterm
    rw [getD_snoc_lt (by omega), getD_snoc_lt hb]
  · unfold lterm
    rw [show (lam ++ [R]).getD lm.length 0 = R from by rw [← hl]; exact getD_snoc_at, getD_snoc_at]

theorem conc_new (w : World) (ys : Array Value) (T : TypeId) : conc (w.alloc (.cells ys T)) w.heap.size = ys := by
  unfold conc; rw [heap_alloc_at]

theorem RelV.cnt_lt {Cx : Nat → Nat} {g : Gh} {w : World} {tm : Array Value} {fr : Fr} {m : Mem} {v : V} {y : Value} (h : RelV Cx g w tm fr m v y) {B : Nat} (hB : w.heap.size ≤ B) :
    fcnt B fr tm + lcnt B w m.lm g.lam + hcnt B w m.h g.ρ + pm B v y + Cx B = 0 := by
  have h1 : fcnt B fr tm = 0 := by
    rcases Nat.eq_zero_or_pos (fcnt B fr tm) with e | e
    · exact e
    · have := h.frm.cnt_lt e; omega
  have h2 : lcnt B w m.lm g.lam = 0 := by
    rcases Nat.eq_zero_or_pos (lcnt B w m.lm g.lam) with e | e
    · exact e
    · have := h.lm.cnt_lt e; omega
  have h3 : hcnt B w m.h g.ρ = 0 := by
    rcases Nat.eq_zero_or_pos (hcnt B w m.h g.ρ) with e | e
    · exact e
    · have := h.hp.cnt_lt e; omega
  have h4 : pm B v y = 0 := by
    rcases Nat.eq_zero_or_pos (pm B v y) with e | e
    · exact e
    · have := h.val.pm_lt e; omega
  rw [h1, h2, h3, h4, h.cnew B hB]

/-- a new block of the heap; what it owns comes out of a value -/
theorem RelV.newBlk {Cx : Nat → Nat} {g : Gh} {w : World} {tm : Array Value} {fr : Fr} {m : Mem} {v : V} {y : Value} (h : RelV Cx g w tm fr m v y) (x : Blk) (o : Obj)
    (hx : ∀ w1 g1, w1 = w.alloc o → g1 = g.more m.h x (some w.heap.size) → Fzn w w1 g.X g1.X → Shp w w1 → GhLe g g1 → BlkRel g1 w1 w.heap.size x)
    (hcn : ∀ B, bcnt B (w.alloc o) w.heap.size x ≤ pm B v y) {v' : V} {y' : Value} (ho : hasOwn v' = false)
    (hv : ∀ w1 g1, w1 = w.alloc o → g1 = g.more m.h x (some w.heap.size) → BlkRel g1 w1 w.heap.size x → RepV g1 w1 v' y') :
    RelV Cx (g.more m.h x (some w.heap.size)) (w.alloc o) tm fr ⟨m.lm, m.h ++ [x]⟩ v' y' ∧
    Stp (fun B => fcnt B fr tm + lcnt B w m.lm g.lam + hcnt B w m.h g.ρ + pm B v y + Cx B) g w (g.more m.h x (some w.heap.size)) (w.alloc o) := by
  have hge := GhLe.more (x := x) (R := some w.heap.size) h.hp.sh h.hp.len
  have st : Stp (fun B => fcnt B fr tm + lcnt B w m.lm g.lam + hcnt B w m.h g.ρ + pm B v y + Cx B) g w (g.more m.h x (some w.heap.size)) (w.alloc o) :=
    Stp.alloc _ (fun B _ => rfl) hge fun B hB => h.cnt_lt hB
  have k2 : Kp (fun B => lcnt B w m.lm g.lam) w (w.alloc o) g.X g.X := (st.mono fun B => by omega).kp
  have k3 : Kp (fun B => hcnt B w m.h g.ρ) w (w.alloc o) g.X g.X := (st.mono fun B => by omega).kp
  have hx0 : g.X w.heap.size = 0 := h.hp.new _ (Nat.le_refl _)
  have hx1 := hx _ _ rfl rfl st.fz st.sh st.ge
  refine ⟨⟨⟨rfl, by simp [Gh.more, h.hp.len], fun b x' R hx' hR => ?_, fun b hR => ?_, fun B hB => h.hp.new B (by simp at hB; omega)⟩,
    ⟨h.lm.len, fun b cs R hx' hR => ?_⟩, h.frm.mono st.fz st.sh st.ge (st.mono fun B => by omega).kp, fun B => ?_, fun B hB => h.cnew B (by simp at hB; omega),
    hv _ _ rfl rfl hx1⟩, st⟩
  · -- blocks
    simp only [Gh.more] at hR
    rcases Nat.lt_or_ge b m.h.length with hb | hb
    · rw [List.getElem?_append_left hb] at hx'
      rw [List.getElem?_append_left (by rw [h.hp.len]; exact hb)] at hR
      obtain ⟨h0, h1⟩ := h.hp.blk b x' R hx' hR
      have hlt := h1.lt
      refine ⟨h0, h1.mono st.fz st.sh st.ge (heap_alloc_lt w _ hlt) fun B hB => rfl⟩
    · have hb' : b = m.h.length := by have := lt_of_get hx'; simp at this; omega
      subst hb'
      simp at hx'
      rw [← h.hp.len] at hR
      simp at hR
      subst hx'; subst hR
      exact ⟨hx0, hx1⟩
  · simp only [Gh.more] at hR ⊢
    rcases Nat.lt_or_ge b m.h.length with hb | hb
    · rw [List.getElem?_append_left hb]
      rw [List.getElem?_append_left (by rw [h.hp.len]; exact hb)] at hR
      exact h.hp.un b hR
    · have hb' : b = g.ρ.length := by have := lt_of_get hR; simp at this; rw [h.hp.len] at *; omega
      subst hb'
      simp at hR
  · obtain ⟨h0, h1⟩ := h.lm.box b cs R hx' hR
    exact ⟨h0, h1.mono st.fz st.sh st.ge (heap_alloc_lt w _ h1.lt) fun B hB => rfl⟩
  · have h1 := h.one B
    simp only [Gh.more]
    rw [hcnt_snoc h.hp.len, HeapRel.cnt_keep k3 B, LmRel.cnt_keep k2 B, pm_noown B v' y' ho]
    have h2 := hcn B
    by_cases e : w.heap.size = B
    · subst e
      have := h.cnt_lt (Nat.le_refl w.heap.size)
      simp only [if_true]
      omega
    · simp only [e, if_false]; omega

/-- a new variable of the heap, out of a value -/
theorem RelV.newVar {Cx : Nat → Nat} {g : Gh} {w : World} {tm : Array Value} {fr : Fr} {m : Mem} {v : V} {y : Value} (h : RelV Cx g w tm fr m v y) (hok : v.cells.all V.cellOk = true) (T : TypeId) :
    RelV Cx (g.more m.h (.var v.cells) (some w.heap.size)) (w.alloc (.cells y.cells T)) tm fr ⟨m.lm, m.h ++ [.var v.cells]⟩ (.ptr m.h.length 0) (.pointer (some ⟨w.heap.size, 0, none⟩)) ∧
    Stp (fun B => fcnt B fr tm + lcnt B w m.lm g.lam + hcnt B w m.h g.ρ + pm B v y + Cx B) g w (g.more m.h (.var v.cells) (some w.heap.size)) (w.alloc (.cells y.cells T)) := by
  obtain ⟨hsz, hcs, hpm⟩ := h.val.cells hok
  refine h.newBlk (.var v.cells) _ ?_ (fun B => by simp only [bcnt, conc_new, hpm]; exact Nat.le_refl _) rfl ?_
  · rintro w1 g1 rfl rfl hf hs hg
    exact ⟨y.cells, T, heap_alloc_at w _, hsz, fun j c hj => (hcs j c hj).mono hf hs hg fun B _ => rfl⟩
  · rintro w1 g1 rfl rfl _
    exact .ptr _ _ _ (by simp [Gh.more, shp]) (by simp [Gh.more, ← h.hp.len])

/-- ghost: one variable of the call's own more -/
def Gh.moreL (g : Gh) (R : Nat) : Gh := { g with lam := g.lam ++ [R] }

theorem GhLe.moreL (g : Gh) (R : Nat) : GhLe g (g.moreL R) where
  un := fun _ e => ⟨e, rfl⟩
  lam := fun b B e => by simp only [Gh.moreL]; rw [List.getElem?_append_left (lt_of_get e)]; exact e
  pt := fun _ _ e1 e2 => ⟨e1, e2⟩
  sh := fun _ _ n e => ⟨n, e, Nat.le_refl _, fun _ _ h => h⟩

/-- a new variable of the call's own, out of a value -/
theorem RelV.newBox {Cx : Nat → Nat} {g : Gh} {w : World} {tm : Array Value} {fr : Fr} {m : Mem} {v : V} {y : Value} (h : RelV Cx g w tm fr m v y) (hok : v.cells.all V.cellOk = true) (T : TypeId) :
    RelV Cx (g.moreL w.heap.size) (w.alloc (.cells y.cells T)) tm fr ⟨m.lm ++ [v.cells], m.h⟩ (.lptr m.lm.length 0) (.pointer (some ⟨w.heap.size, 0, none⟩)) ∧
    Stp (fun B => fcnt B fr tm + lcnt B w m.lm g.lam + hcnt B w m.h g.ρ + pm B v y + Cx B) g w (g.moreL w.heap.size) (w.alloc (.cells y.cells T)) := by
  obtain ⟨hsz, hcs, hpm⟩ := h.val.cells hok
  have st : Stp (fun B => fcnt B fr tm + lcnt B w m.lm g.lam + hcnt B w m.h g.ρ + pm B v y + Cx B) g w (g.moreL w.heap.size) (w.alloc (.cells y.cells T)) :=
    Stp.alloc _ (fun B _ => rfl) (GhLe.moreL g _) fun B hB => h.cnt_lt hB
  have k2 : Kp (fun B => lcnt B w m.lm g.lam) w (w.alloc (.cells y.cells T)) g.X g.X := (st.mono fun B => by omega).kp
  have k3 : Kp (fun B => hcnt B w m.h g.ρ) w (w.alloc (.cells y.cells T)) g.X g.X := (st.mono fun B => by omega).kp
  have hx0 : g.X w.heap.size = 0 := h.hp.new _ (Nat.le_refl _)
  refine ⟨⟨⟨h.hp.sh, h.hp.len, fun b x R hx hR => ?_, h.hp.un, fun B hB => h.hp.new B (by simp at hB; omega)⟩, ⟨by simp [Gh.moreL, h.lm.len], fun b cs R hx hR => ?_⟩,
    h.frm.mono st.fz st.sh st.ge (st.mono fun B => by omega).kp, fun B => ?_, fun B hB => h.cnew B (by simp at hB; omega), .lptr _ _ _ (by simp [Gh.moreL, ← h.lm.len])⟩, st⟩
  · obtain ⟨h0, h1⟩ := h.hp.blk b x R hx hR
    exact ⟨h0, h1.mono st.fz st.sh st.ge (heap_alloc_lt w _ h1.lt) fun B hB => rfl⟩
  · simp only [Gh.moreL] at hR
    rcases Nat.lt_or_ge b m.lm.length with hb | hb
    · rw [List.getElem?_append_left hb] at hx
      rw [List.getElem?_append_left (by rw [h.lm.len]; exact hb)] at hR
      obtain ⟨h0, h1⟩ := h.lm.box b cs R hx hR
      exact ⟨h0, h1.mono st.fz st.sh st.ge (heap_alloc_lt w _ h1.lt) fun B hB => rfl⟩
    · have hb' : b = m.lm.length := by have := lt_of_get hx; simp at this; omega
      subst hb'
      simp at hx
      rw [← h.lm.len] at hR
      simp at hR
      subst hx; subst hR
      exact ⟨hx0, y.cells, T, heap_alloc_at w _, hsz, fun j c hj => (hcs j c hj).mono st.fz st.sh st.ge fun B _ => rfl⟩
  · have h1 := h.one B
    simp only [Gh.moreL]
    rw [lcnt_snoc h.lm.len, HeapRel.cnt_keep k3 B, LmRel.cnt_keep k2 B]
    simp only [conc_new, hpm]
    have h2 : pm B (.lptr m.lm.length 0) (.pointer (some ⟨w.heap.size, 0, none⟩)) = 0 := by simp [pm]
    rw [h2]
    by_cases e : w.heap.size = B
    · subst e
      have := h.cnt_lt (Nat.le_refl w.heap.size)
      simp only [if_true]
      omega
    · simp only [e, if_false]; omega

end Go.Wn

namespace Go.Wn
open Go

/-- the tables are the program's -/
structure TabOk (P : Program) (Q : Tab) : Prop where
  und : ∀ t d, Q.und t = some d → P.underlying t = some d
  sz : ∀ t n, Q.sz t = some n → ∃ i, P.info? t = some i ∧ i.size = n
  bt : ∀ t n, Q.bt t = some n → ∃ i, P.info? t = some i ∧ i.bytes = n
  zero : ∀ t z, Q.zero t = some z → ∃ i, P.info? t = some i ∧ i.zero = some z
  zk : ∀ t z b, Q.zero t = some z → aggT Q t = some b → if b then ∃ cs, z = .agg cs else z.oneCell' = true
  fn : ∀ f x, Q.fn f = some x → P.funcs[f]? = some x
  plain : ∀ t, Q.plain t = true → P.stoodInHeld t = false ∧ P.eqGuardType P.depth t = false

section
variable {P : Program} {Q : Tab}

theorem run_und (hQ : TabOk P Q) {t : TypeId} {d : TypeDesc} (h : Q.und t = some d) (w : World) : (underlying t).run P w = .ok d w := run_underlying (hQ.und t d h) w

theorem run_sizeOf (hQ : TabOk P Q) {t : TypeId} {n : Nat} (h : Q.sz t = some n) (w : World) : (sizeOf t).run P w = .ok n w := by
  obtain ⟨i, hi, rfl⟩ := hQ.sz t n h
  simp [sizeOf, typeInfo, hi]

theorem run_isAgg (hQ : TabOk P Q) {t : TypeId} {b : Bool} (h : aggT Q t = some b) (w : World) : (isAgg t).run P w = .ok b w := by
  unfold aggT at h
  cases hd : Q.und t with
  | none => simp [hd] at h
  | some d =>
    simp only [hd, Option.map_some, Option.some.injEq] at h
    have := run_und hQ hd w
    unfold isAgg
    simp only [Sem.run_bind, this, Result.andThen]
    subst h
    cases d <;> rfl

theorem run_zeroValue (hQ : TabOk P Q) {t : TypeId} {z : Value} (h : Q.zero t = some z) (w : World) : (zeroValue t).run P w = .ok z w := by
  obtain ⟨i, hi, hz⟩ := hQ.zero t z h
  simp [zeroValue, typeInfo, hi, hz]
end

theorem rep_constCell (g : Gh) (w : World) (nf : Bool) (x : Value) : RepV g w (constCell nf x) x := by
  unfold constCell
  split
  · exact .p _ _ (.b _)
  · exact .p _ _ (.i _ _)
  · exact .p _ _ (.s _)
  · split
    · exact .p _ _ .nils
    · exact .own0 _
  · exact .p _ _ (.c _ (.inl rfl))
  · exact .p _ _ (.c _ (.inr (.inl rfl)))
  · exact .p _ _ (.c _ (.inr (.inr (.inl rfl))))
  · exact .p _ _ (.c _ (.inr (.inr (.inr rfl))))
  · exact .und _

theorem rep_const (g : Gh) (w : World) (nf : Bool) (x : Value) : RepV g w (constV nf x) x := by
  unfold constV
  split
  · rename_i cs
    refine RepV.mkAgg (.agg _ cs (by simp) fun j c hj => ?_)
    simp only [List.getElem?_map, Array.getElem?_toList, Option.map_eq_some_iff] at hj
    obtain ⟨d, hd, rfl⟩ := hj
    have : cs.getD j undef = d := by simp [Array.getD_eq_getD_getElem?, hd]
    rw [this]
    exact rep_constCell g w nf d
  · rename_i vs
    split
    · rename_i h0
      have : vs = #[] := Array.eq_empty_of_size_eq_zero h0
      subst this
      exact .nov
    · exact .und _
  · exact rep_constCell g w nf _

theorem pm_own_nil (B : Nat) (y : Value) : pm B (.own []) y = 0 := by
  cases y with
  | slice a l c => cases a with
    | none => rfl
    | some a => rw [pm]; exact if_neg (fun h => h.1 rfl)
  | _ => rfl

theorem hasOwn_constCell (nf : Bool) (x : Value) : ∀ B y, pm B (constCell nf x) y = 0 := by
  intro B y
  unfold constCell
  split <;> try exact pm_p B _ y
  · split
    · exact pm_p B _ y
    · exact pm_own_nil B y
  · cases y <;> rfl

theorem pm_constV (nf : Bool) (x : Value) (B : Nat) (y : Value) : pm B (constV nf x) y = 0 := by
  have keyL : ∀ (l : List Value) (ys : Array Value) (k : Nat), pmL B (l.map (constCell nf)) ys k = 0 := by
    intro l
    induction l with
    | nil => intro ys k; rfl
    | cons a l ih => intro ys k; simp only [List.map_cons, pmL]; rw [hasOwn_constCell, ih]
  unfold constV
  split
  · unfold mkAgg
    split
    · exact pm_p B _ y
    · cases y <;> simp [pm]
      exact keyL _ _ _
  · split <;> cases y <;> simp [pm]
  · exact hasOwn_constCell nf _ B y

/-- an operand's value -/
theorem arg_rel {g : Gh} {w : World} {fr : Fr} {tm : Array Value} (h : FrRel g w fr tm) (nf : Bool) (x : Operand) (ds : List Deferred) : RepV g w (argOf nf fr x) (Act.eval ⟨tm, ds⟩ x) := by
  cases x with
  | tmp t => exact (h t).cp
  | const v => exact rep_const g w nf v
  | global k => exact .und _
  | func f => exact .clo _ [] [] #[] #[] rfl rfl (fun _ => rfl) (fun _ => rfl) (by simp) (by simp)

theorem pm_arg {fr : Fr} (nf : Bool) (x : Operand) (B : Nat) (y : Value) : pm B (argOf nf fr x) y = 0 := by
  cases x with
  | tmp t => exact pm_noown B _ y (hasOwn_cp _)
  | const v => exact pm_constV nf v B y
  | global k => cases y <;> rfl
  | func f => cases y <;> rfl

/-- a value that owns nothing, beside a state -/
theorem Rel.withV0 {Cx : Nat → Nat} {g : Gh} {w : World} {tm : Array Value} {fr : Fr} {m : Mem} (h : Rel Cx g w tm fr m) {v : V} {y : Value} (hv : RepV g w v y) (ho : ∀ B, pm B v y = 0) :
    RelV Cx g w tm fr m v y :=
  ⟨h.hp, h.lm, h.frm, fun B => by have := h.one B; rw [ho B]; omega, h.cnew, hv⟩

/-- what was copied, or loaded, in this region stands as it did -/
structure Ids (P : Program) (E : Env) (sq : Bool) (S : Nat → Prop) (pre : List Oper) (fr : Fr) (tm : Array Value) (w : World) : Prop where
  cpy : ∀ t s, S t → copyOf pre fr t = some s → tm.getD t undef = tm.getD s undef
  ldd : ∀ t ty a, S t → loadOf E sq pre fr t = some (ty, a) → (Instr.loadAt ty (tm.getD a undef)).run P w = .ok (tm.getD t undef) w

/-- what a read of cells gives -/
theorem ld_rel {Cx : Nat → Nat} {g : Gh} {w : World} {tm : Array Value} {fr : Fr} {m : Mem} (h : Rel Cx g w tm fr m) {a : V} {y : Value} {n : Nat} {vs : List V} (ha : RepV g w a y) (e : ld m a n = some vs) :
    vs.length = n ∧ ∃ (B o : Nat) (f : Nat → Value), y = .pointer (some ⟨B, o, none⟩) ∧ ∀ (j : Nat) (c : V), vs[j]? = some c → w.cell? ⟨B, o + j, none⟩ = some (f j) ∧ RepV g w c (f j) := by
  have main : ∀ (cs : List V) (B o i : Nat) (ys : Array Value) (T : TypeId), w.heap[B]? = some (.cells ys T (0, 0)) → (∀ (j : Nat) (c : V), cs[j]? = some c → i + j < ys.size ∧ RepV g w c (ys.getD (i + j) undef)) →
      o = i → ∀ k, getCells cs k n = some vs → y = .pointer (some ⟨B, o + k, none⟩) →
      vs.length = n ∧ ∃ (B o : Nat) (f : Nat → Value), y = .pointer (some ⟨B, o, none⟩) ∧ ∀ (j : Nat) (c : V), vs[j]? = some c → w.cell? ⟨B, o + j, none⟩ = some (f j) ∧ RepV g w c (f j) := by
    intro cs B o i ys T hb hc ho k hg hy
    subst ho
    unfold getCells at hg
    split at hg
    · rename_i hle
      simp only [Option.some.injEq] at hg
      subst hg
      refine ⟨by simp; omega, B, o + k, fun j => ys.getD (o + (k + j)) undef, hy, fun j c hj => ?_⟩
      rw [List.getElem?_take] at hj
      split at hj
      · rw [List.getElem?_drop] at hj
        obtain ⟨h1, h2⟩ := hc (k + j) c hj
        refine ⟨?_, h2⟩
        simp only [World.cell?, hb, Option.isSome_none, Bool.false_eq_true, if_false]
        rw [Nat.add_assoc, Array.getElem?_eq_getElem h1]
        simp [Array.getD_eq_getD_getElem?, h1]
      · cases hj
    · cases hg
  unfold ld at e
  cases ha with
  | lptr b j B hb =>
    simp only at e
    cases hx : m.lm[b]? with
    | none => simp [hx] at e
    | some cs =>
      simp only [hx] at e
      obtain ⟨h0, ys, T, hh, hl, hc⟩ := h.lm.box b cs B hx hb
      exact main cs B 0 0 ys T hh (fun i c hi => ⟨by have := lt_of_get hi; omega, by simpa using hc i c hi⟩) rfl j e (by simp)
  | ptr b j B hs hb =>
    simp only at e
    cases hx : m.h[b]? with
    | none => simp [hx] at e
    | some x =>
      cases x with
      | var cs =>
        simp only [hx] at e
        obtain ⟨h0, ys, T, hh, hl, hc⟩ := h.hp.blk b _ B hx hb
        exact main cs B 0 0 ys T hh (fun i c hi => ⟨by have := lt_of_get hi; omega, by simpa using hc i c hi⟩) rfl j e (by simp)
      | arr sz rs => simp [hx] at e
      | map ks vs => simp [hx] at e
  | aptr b i j ver sz n' y hy hs hv hB =>
    simp only at e
    cases hx : m.h[b]? with
    | none => simp [hx] at e
    | some x =>
      cases x with
      | var cs => simp [hx] at e
      | map ks vs => simp [hx] at e
      | arr sz' rs =>
        simp only [hx] at e
        split at e
        · rename_i hver
          cases hr : rs[i]? with
          | none => simp [hr] at e
          | some r =>
            simp only [hr] at e
            have hsh : g.sh b = some (sz', rs.length) := by rw [h.hp.sh]; simp [shp, hx]
            rw [hs] at hsh
            simp only [Option.some.injEq, Prod.mk.injEq] at hsh
            obtain ⟨rfl, rfl⟩ := hsh
            obtain ⟨B, hb, rfl⟩ := hB hver.symm
            obtain ⟨h0, ys, T, cap, hh, hl, hle, hz, hc⟩ := h.hp.blk b _ B hx hb
            obtain ⟨hrl, hrc⟩ := hc i r hr
            have hi := lt_of_get hr
            refine main r B (i * sz) (i * sz) ys T hh (fun k c hk => ⟨?_, hrc k c hk⟩) rfl j e rfl
            have h2 := lt_of_get hk
            have h3 : (i + 1) * sz ≤ cap * sz := Nat.mul_le_mul_right _ (by omega)
            rw [Nat.add_mul] at h3
            omega
        · cases e
  | p x y hp =>
    cases hp with
    | ref cs off B o f hc hr =>
      simp only at e
      split at e
      · rename_i hle
        simp only [Option.some.injEq] at e
        subst e
        refine ⟨by simp; omega, B, o + off, fun j => f (off + j), rfl, fun j c hj => ?_⟩
        simp only [List.getElem?_map, Option.map_eq_some_iff] at hj
        obtain ⟨d, hd, rfl⟩ := hj
        rw [List.getElem?_take] at hd
        split at hd
        · rw [List.getElem?_drop] at hd
          refine ⟨?_, .p _ _ (hr _ _ hd)⟩
          rw [Nat.add_assoc]
          exact (hc _ _ hd).2
        · cases hd
      · cases e
    | _ => simp at e
  | _ => simp at e

end Go.Wn

namespace Go.Wn
open Go

theorem Sm_two {n i j : Nat} {f : Nat → Nat} (hi : i < n) (hj : j < n) (h : i ≠ j) : f i + f j ≤ Sm n f := by
  induction n with
  | zero => omega
  | succ n ih =>
    simp only [Sm]
    by_cases e1 : i = n
    · subst e1; have := Sm_get (n := i) (d := j) (f := f) (by omega); omega
    · by_cases e2 : j = n
      · subst e2; have := Sm_get (n := j) (d := i) (f := f) (by omega); omega
      · have := ih (by omega) (by omega); omega

theorem getD_set_ne {α : Type} {l : List α} {b c : Nat} {x d : α} (h : c ≠ b) : (l.set b x).getD c d = l.getD c d := by
  simp [List.getD, List.getElem?_set, Ne.symm h]

theorem getD_set_at {α : Type} {l : List α} {b : Nat} {x d : α} (h : b < l.length) : (l.set b x).getD b d = x := by
  simp [List.getD, List.getElem?_set, h]

theorem hcnt_set {B : Nat} {w w' : World} {h : Heap} {ρ : List (Option Nat)} {b R : Nat} {x x' : Blk} (hx : h[b]? = some x) (hR : ρ[b]? = some (some R))
    (hu : ∀ (c S : Nat), c ≠ b → c < h.length → ρ[c]? = some (some S) → w'.heap[S]? = w.heap[S]?) :
    hcnt B w' (h.set b x') ρ + bcnt B w R x = hcnt B w h ρ + bcnt B w' R x' := by
  unfold hcnt
  rw [List.length_set]
  have hb := lt_of_get hx
  have := Sm_upd (n := h.length) (d := b) (f := hterm B w h ρ) (f' := fun c => if c < h.length then hterm B w' (h.set b x') ρ c else hterm B w h ρ c) hb (fun c hc => by
    by_cases hlt : c < h.length
    · simp only [hlt, if_true]
      unfold hterm
      rw [getD_set_ne hc]
      cases hS : ρ[c]? with
      | none => simp [List.getD, hS]
      | some s => cases s with
        | none => simp [List.getD, hS]
        | some S =>
          have := conc_eq (hu c S hc hlt hS)
          simp only [List.getD, hS, Option.getD_some]
          cases (h[c]?).getD default <;> simp [bcnt, this]
    · simp only [hlt, if_false])
  rw [Sm_congr (n := h.length) (f := hterm B w' (h.set b x') ρ) (f' := fun c => if c < h.length then hterm B w' (h.set b x') ρ c else hterm B w h ρ c) (fun c hc => by simp only [hc, if_true])] at this
  simp only [hb, if_true] at this
  rw [hterm_some hx hR, hterm_some (h := h.set b x') (x := x') (by simp [hb]) hR] at this
  omega

theorem lcnt_set {B : Nat} {w w' : World} {lm : List (List V)} {lam : List Nat} {b R : Nat} {x x' : List V} (hx : lm[b]? = some x) (hR : lam[b]? = some R)
    (hu : ∀ (c : Nat), c ≠ b → c < lm.length → w'.heap[lam.getD c 0]? = w.heap[lam.getD c 0]?) :
    lcnt B w' (lm.set b x') lam + pmL B x (conc w R) 0 = lcnt B w lm lam + pmL B x' (conc w' R) 0 := by
  unfold lcnt
  rw [List.length_set]
  have hb := lt_of_get hx
  have := Sm_upd (n := lm.length) (d := b) (f := lterm B w lm lam) (f' := fun c => if c < lm.length then lterm B w' (lm.set b x') lam c else lterm B w lm lam c) hb (fun c hc => by
    by_cases hlt : c < lm.length
    · simp only [hlt, if_true]
      unfold lterm
      rw [getD_set_ne hc, conc_eq (hu c hc hlt)]
    · simp only [hlt, if_false])
  rw [Sm_congr (n := lm.length) (f := lterm B w' (lm.set b x') lam) (f' := fun c => if c < lm.length then lterm B w' (lm.set b x') lam c else lterm B w lm lam c) (fun c hc => by simp only [hc, if_true])] at this
  simp only [hb, if_true] at this
  have e1 : lterm B w lm lam b = (if R = B then 1 else 0) + pmL B x (conc w R) 0 := by simp [lterm, List.getD, hx, hR]
  have e2 : lterm B w' (lm.set b x') lam b = (if R = B then 1 else 0) + pmL B x' (conc w' R) 0 := by
    unfold lterm
    rw [getD_set_at hb]
    simp [List.getD, hR]
  rw [e1, e2] at this
  omega

/-- one block turns, the rest of the world stands -/
structure Turn (R : Nat) (w w' : World) : Prop where
  rest : ∀ B, B ≠ R → w'.heap[B]? = w.heap[B]?
  size : w'.heap.size = w.heap.size
  sh : Shp w w'
  os : w'.os = w.os
  tape : w'.tape = w.tape
  output : w'.output = w.output

theorem Turn.refl (R : Nat) (w : World) : Turn R w w := ⟨fun _ _ => rfl, rfl, .refl w, rfl, rfl, rfl⟩

theorem Turn.stp {R : Nat} {w w' : World} (ht : Turn R w w') {g : Gh} (hX : g.X R = 0) {D : Nat → Nat} (hD : D R = 0) : Stp D g w g w' where
  fz := ⟨fun B i y hi hy => by
      have hne : B ≠ R := fun e => by subst e; omega
      refine ⟨hi, ?_⟩
      unfold World.cell? at hy ⊢
      rw [ht.rest B hne]; exact hy, fun S es ck hm hx => by
      have hne : S ≠ R := fun e => by subst e; omega
      exact ⟨by rw [ht.rest S hne]; exact hm, hx⟩⟩
  sh := ht.sh
  kp := fun B hB => ⟨ht.rest B (fun e => by subst e; omega), rfl⟩
  ge := .refl g
  os := ht.os
  tape := ht.tape
  output := ht.output
  size := by rw [ht.size]; exact Nat.le_refl _

/-- the content of one block of the heap turns -/
theorem RelV.setBlk {Cx : Nat → Nat} {g : Gh} {w w' : World} {tm : Array Value} {fr : Fr} {m : Mem} {v : V} {y : Value} (h : RelV Cx g w tm fr m v y) {b R : Nat} {x : Blk} (x' : Blk)
    (hx : m.h[b]? = some x) (hR : g.ρ[b]? = some (some R)) (hs : shp (m.h.set b x') = shp m.h) (ht : Turn R w w') {u : V} {z : Value}
    (hb : Stp (fun B => fcnt B fr tm + lcnt B w m.lm g.lam + Cx B) g w g w' → BlkRel g w' R x') (hu : RepV g w' u z)
    (hc : ∀ B, bcnt B w' R x' + pm B u z ≤ bcnt B w R x + pm B v y) :
    RelV Cx g w' tm fr ⟨m.lm, m.h.set b x'⟩ u z ∧ Stp (fun B => fcnt B fr tm + lcnt B w m.lm g.lam + Cx B) g w g w' := by
  obtain ⟨hX, hbr⟩ := h.hp.blk b x R hx hR
  have hbl := lt_of_get hx
  have hge : 1 ≤ hcnt R w m.h g.ρ := by
    have := Sm_get (n := m.h.length) (d := b) (f := hterm R w m.h g.ρ) hbl
    rw [hterm_some hx hR] at this
    simp only [if_true] at this
    unfold hcnt; omega
  have h1R := h.one R
  have st : Stp (fun B => fcnt B fr tm + lcnt B w m.lm g.lam + Cx B) g w g w' := ht.stp hX (by omega)
  have other : ∀ (c S : Nat), c ≠ b → c < m.h.length → g.ρ[c]? = some (some S) → S ≠ R := by
    intro c S hcb hcl hS e
    subst e
    obtain ⟨xc, hxc⟩ : ∃ xc, m.h[c]? = some xc := ⟨m.h[c], by simp [hcl]⟩
    have h2 := Sm_two (f := hterm S w m.h g.ρ) hcl hbl hcb
    rw [hterm_some hx hR, hterm_some hxc hS] at h2
    simp only [if_true] at h2
    unfold hcnt at h1R
    omega
  have k2 : Kp (fun B => lcnt B w m.lm g.lam) w w' g.X g.X := (st.mono fun B => by omega).kp
  refine ⟨⟨⟨by rw [hs]; exact h.hp.sh, by simp [h.hp.len], fun c xc S hxc hS => ?_, fun c hS => ?_, fun B hB => h.hp.new B (by rw [ht.size] at hB; exact hB)⟩,
    h.lm.mono st.fz st.sh st.ge rfl k2, h.frm.mono st.fz st.sh st.ge (st.mono fun B => by omega).kp, fun B => ?_, fun B hB => h.cnew B (by rw [ht.size] at hB; exact hB), hu⟩, st⟩
  · by_cases e : c = b
    · subst e
      rw [hR] at hS
      simp only [Option.some.injEq] at hS
      subst hS
      simp [hbl] at hxc
      subst hxc
      exact ⟨hX, hb st⟩
    · rw [List.getElem?_set_ne (Ne.symm e)] at hxc
      obtain ⟨h0, h1⟩ := h.hp.blk c xc S hxc hS
      have hne := other c S e (lt_of_get hxc) hS
      exact ⟨h0, h1.mono st.fz st.sh st.ge (ht.rest S hne) fun B _ => rfl⟩
  · by_cases e : c = b
    · subst e; rw [hR] at hS; cases hS
    · rw [List.getElem?_set_ne (Ne.symm e)]
      exact h.hp.un c hS
  · have h1 := h.one B
    have h2 := hc B
    have h3 := hcnt_set (B := B) (w' := w') (x' := x') hx hR (fun c S hcb hcl hS => ht.rest S (other c S hcb hcl hS))
    have h4 := LmRel.cnt_keep k2 B
    simp only
    omega

/-- the content of one variable of the call's own turns -/
theorem RelV.setBox {Cx : Nat → Nat} {g : Gh} {w w' : World} {tm : Array Value} {fr : Fr} {m : Mem} {v : V} {y : Value} (h : RelV Cx g w tm fr m v y) {b R : Nat} {x : List V} (x' : List V)
    (hx : m.lm[b]? = some x) (hR : g.lam[b]? = some R) (ht : Turn R w w') {u : V} {z : Value}
    (hb : Stp (fun B => fcnt B fr tm + hcnt B w m.h g.ρ + Cx B) g w g w' → BlkRel g w' R (.var x')) (hu : RepV g w' u z)
    (hc : ∀ B, pmL B x' (conc w' R) 0 + pm B u z ≤ pmL B x (conc w R) 0 + pm B v y) :
    RelV Cx g w' tm fr ⟨m.lm.set b x', m.h⟩ u z ∧ Stp (fun B => fcnt B fr tm + hcnt B w m.h g.ρ + Cx B) g w g w' := by
  obtain ⟨hX, hbr⟩ := h.lm.box b x R hx hR
  have hbl := lt_of_get hx
  have tb : lterm R w m.lm g.lam b = 1 + pmL R x (conc w R) 0 := by simp [lterm, List.getD, hx, hR]
  have hge : 1 ≤ lcnt R w m.lm g.lam := by
    have := Sm_get (n := m.lm.length) (d := b) (f := lterm R w m.lm g.lam) hbl
    rw [tb] at this
    unfold lcnt; omega
  have h1R := h.one R
  have st : Stp (fun B => fcnt B fr tm + hcnt B w m.h g.ρ + Cx B) g w g w' := ht.stp hX (by omega)
  have other : ∀ (c : Nat), c ≠ b → c < m.lm.length → g.lam.getD c 0 ≠ R := by
    intro c hcb hcl e
    have h2 := Sm_two (f := lterm R w m.lm g.lam) hcl hbl hcb
    rw [tb] at h2
    simp only [lterm, e, if_true] at h2
    unfold lcnt at h1R
    omega
  have k3 : Kp (fun B => hcnt B w m.h g.ρ) w w' g.X g.X := (st.mono fun B => by omega).kp
  refine ⟨⟨h.hp.mono st.fz st.sh st.ge rfl rfl (fun B hB => h.hp.new B (by rw [ht.size] at hB; exact hB)) k3, ⟨by simp [h.lm.len], fun c xc S hxc hS => ?_⟩,
    h.frm.mono st.fz st.sh st.ge (st.mono fun B => by omega).kp, fun B => ?_, fun B hB => h.cnew B (by rw [ht.size] at hB; exact hB), hu⟩, st⟩
  · by_cases e : c = b
    · subst e
      rw [hR] at hS
      simp only [Option.some.injEq] at hS
      subst hS
      simp [hbl] at hxc
      subst hxc
      exact ⟨hX, hb st⟩
    · rw [List.getElem?_set_ne (Ne.symm e)] at hxc
      obtain ⟨h0, h1⟩ := h.lm.box c xc S hxc hS
      have hne := other c e (lt_of_get hxc)
      have e2 : g.lam.getD c 0 = S := by simp [List.getD, hS]
      rw [e2] at hne
      exact ⟨h0, h1.mono st.fz st.sh st.ge (ht.rest S hne) fun B _ => rfl⟩
  · have h1 := h.one B
    have h2 := hc B
    have h3 := lcnt_set (B := B) (w' := w') (x' := x') hx hR (fun c hcb hcl => ht.rest _ (other c hcb hcl))
    have h4 := HeapRel.cnt_keep k3 B
    simp only
    omega

end Go.Wn
