/- A small interpreter over a clean memory, in which the program's functions are told as plain Lean functions. Definitions alone. -/
import Derived.Calls
import Derived.KernelRfl
set_option linter.unusedVariables false
namespace Go.Mx

/-! ## memory: a list of objects; an object's number is its place -/
inductive MObj where
  | live (cs : List Value)
  | ro (cs : List Value)    -- it is read alone
  | dead
  deriving Inhabited
abbrev Mem := List MObj
abbrev Env := List (Nat × Value)
def lk {α : Type} (t : Nat) : List (Nat × α) → Option α
  | [] => none
  | (u, v) :: e => bif Nat.beq u t then some v else lk t e

def MObj.cells : MObj → Option (List Value)
  | .live cs => some cs
  | .ro cs => some cs
  | .dead => none
def MObj.wcells : MObj → Option (List Value)
  | .live cs => some cs
  | _ => none
def Mem.cells (m : Mem) (b : Nat) : Option (List Value) := (m[b]?).bind MObj.cells
def Mem.wcells (m : Mem) (b : Nat) : Option (List Value) := (m[b]?).bind MObj.wcells

def cInt (k : IntKind) (cs : List Value) (i : Nat) : Option Int :=
  match cs[i]? with
  | some (.int k' n) => if k' = k then some n else none
  | _ => none
def cBool (cs : List Value) (i : Nat) : Option Bool :=
  match cs[i]? with
  | some (.bool b) => some b
  | _ => none
def cPtr (cs : List Value) (i : Nat) : Option (Option Addr) :=
  match cs[i]? with
  | some (.pointer p) => some p
  | _ => none
structure Sl where
  a : Option Addr
  len : Nat
  cap : Nat
  deriving Inhabited
def cSl (cs : List Value) (i : Nat) : Option Sl :=
  match cs[i]? with
  | some (.slice a l c) => some ⟨a, l, c⟩
  | _ => none
def cStr (cs : List Value) (i : Nat) : Option ByteArray :=
  match cs[i]? with
  | some (.string s) => some s
  | _ => none
def cMap (cs : List Value) (i : Nat) : Option (Option Nat) :=
  match cs[i]? with
  | some (.map r) => some r
  | _ => none
def isOne : Value → Bool
  | .agg _ | .tuple _ => false
  | _ => true
def cVal (cs : List Value) (i : Nat) : Option Value := cs[i]?
def cCells (cs : List Value) (i n : Nat) : Option (List Value) :=
  if i + n ≤ cs.length then some ((cs.drop i).take n) else none
def setCells (cs : List Value) (i : Nat) (vs : List Value) : Option (List Value) :=
  if i + vs.length ≤ cs.length then some (cs.take i ++ vs ++ cs.drop (i + vs.length)) else none
def setCell (cs : List Value) (i : Nat) (v : Value) : Option (List Value) :=
  if i < cs.length then some (cs.set i v) else none

def ldInt (k : IntKind) (m : Mem) (a : Addr) : Option Int := (m.cells a.block).bind fun cs => cInt k cs a.off
def ldBool (m : Mem) (a : Addr) : Option Bool := (m.cells a.block).bind fun cs => cBool cs a.off
def ldPtr (m : Mem) (a : Addr) : Option (Option Addr) := (m.cells a.block).bind fun cs => cPtr cs a.off
def ldSl (m : Mem) (a : Addr) : Option Sl := (m.cells a.block).bind fun cs => cSl cs a.off
def ldStr (m : Mem) (a : Addr) : Option ByteArray := (m.cells a.block).bind fun cs => cStr cs a.off
def ldMap (m : Mem) (a : Addr) : Option (Option Nat) := (m.cells a.block).bind fun cs => cMap cs a.off
def ldVal (m : Mem) (a : Addr) : Option Value := (m.cells a.block).bind fun cs => cVal cs a.off
def ldCells (m : Mem) (a : Addr) (n : Nat) : Option (List Value) := (m.cells a.block).bind fun cs => cCells cs a.off n
def st (m : Mem) (a : Addr) (v : Value) : Option Mem :=
  (m.wcells a.block).bind fun cs => (setCell cs a.off v).bind fun cs' => some (m.set a.block (.live cs'))
def stCells (m : Mem) (a : Addr) (vs : List Value) : Option Mem :=
  (m.wcells a.block).bind fun cs => (setCells cs a.off vs).bind fun cs' => some (m.set a.block (.live cs'))

def plus (a : Addr) (n : Nat) : Addr := ⟨a.block, a.off + n, a.spot⟩
def new (m : Mem) (cs : List Value) : Mem := m ++ [.live cs]
def ptrTo (n : Nat) : Value := .pointer (some ⟨n, 0, none⟩)

/-! ## types -/
inductive TD where
  | int (k : IntKind) | bool | str | ptr (e : Nat) | slice (e : Nat) | map | struct (fs : List (Nat × Nat)) | array (n e : Nat) | iface | fn | other
/-- a cell that may be compared -/
inductive EK where | int (k : IntKind) | bool | str
  deriving DecidableEq
structure TI where
  d : TD
  size : Nat
  bytes : Nat
  zero : List Value
  eq : Option (List EK)
abbrev TT := Nat → TI

def getT {R : Type} (T : TT) (t : Nat) (cs : List Value) (i : Nat) (K : Value → Option R) : Option R :=
  match (T t).d with
  | .int k => (cInt k cs i).bind fun n => K (.int k n)
  | .bool => (cBool cs i).bind fun n => K (.bool n)
  | .ptr _ => (cPtr cs i).bind fun n => K (.pointer n)
  | .slice _ => (cSl cs i).bind fun n => K (.slice n.a n.len n.cap)
  | .map => (cMap cs i).bind fun n => K (.map n)
  | .str => (cStr cs i).bind fun n => K (.string n)
  | .struct _ | .array _ _ => (cCells cs i (T t).size).bind fun n => K (.agg ⟨n⟩)
  | .iface | .fn => (cVal cs i).bind fun n => K n
  | .other => none
def ldT {R : Type} (T : TT) (t : Nat) (m : Mem) (a : Addr) (K : Value → Option R) : Option R :=
  match (T t).d with
  | .int k => (ldInt k m a).bind fun n => K (.int k n)
  | .bool => (ldBool m a).bind fun n => K (.bool n)
  | .ptr _ => (ldPtr m a).bind fun n => K (.pointer n)
  | .slice _ => (ldSl m a).bind fun n => K (.slice n.a n.len n.cap)
  | .map => (ldMap m a).bind fun n => K (.map n)
  | .str => (ldStr m a).bind fun n => K (.string n)
  | .struct _ | .array _ _ => (ldCells m a (T t).size).bind fun n => K (.agg ⟨n⟩)
  | .iface | .fn => (ldVal m a).bind fun n => K n
  | .other => none
/-- the cells of a value of a type -/
def cellsT {R : Type} (T : TT) (t : Nat) (v : Value) (K : List Value → Option R) : Option R :=
  match (T t).d with
  | .struct _ | .array _ _ => match v with
    | .agg cs => bif Nat.beq cs.toList.length (T t).size then K cs.toList else none
    | _ => none
  | .other => none
  | .iface | .fn => bif isOne v then K [v] else none
  | _ => match v with
    | .agg _ | .tuple _ => none
    | v => K [v]
def stT {R : Type} (T : TT) (t : Nat) (m : Mem) (a : Addr) (v : Value) (K : Mem → Option R) : Option R :=
  match (T t).d with
  | .struct _ | .array _ _ => match v with
    | .agg cs => bif Nat.beq cs.toList.length (T t).size then (stCells m a cs.toList).bind K else none
    | _ => none
  | .other => none
  | .iface | .fn => bif isOne v then (st m a v).bind K else none
  | _ => match v with
    | .agg _ | .tuple _ => none
    | v => (st m a v).bind K

def inRange (i : Int) (n : Nat) : Bool := decide (0 ≤ i) && decide (i < n)
def inUpto (i : Int) (n : Nat) : Bool := decide (0 ≤ i) && decide (i ≤ n)
def isZero (y : Int) : Bool := decide (y = 0)

def plainV : Value → Bool
  | .bool _ | .int _ _ | .string _ | .pointer none | .slice none 0 0 | .map none | .nilFunc | .nilIface => true
  | _ => false
def opnd (e : Env) : Operand → Option Value
  | .tmp t => lk t e
  | .const v => bif plainV v then some v else none
  | .func f => some (.func (.func f) #[] #[])
  | .global _ => none
def opO (e : Env) : Option Operand → Option (Option Value)
  | none => some none
  | some x => match opnd e x with
    | some v => some (some v)
    | none => none
def opnds (e : Env) : List Operand → Option (List Value)
  | [] => some []
  | x :: xs => match opnd e x, opnds e xs with
    | some v, some vs => some (v :: vs)
    | _, _ => none

/-! ## operators -/
def bitI (op : BinOp) (k : IntKind) (x y : Int) : Int :=
  let a := BitVec.ofInt k.bits x
  let b := BitVec.ofInt k.bits y
  match op with
  | .and => k.wrap (a &&& b).toNat
  | .or => k.wrap (a ||| b).toNat
  | .xor => k.wrap (a ^^^ b).toNat
  | _ => k.wrap (a &&& ~~~b).toNat
def shlI (k : IntKind) (x y : Int) : Int := k.wrap (x * 2 ^ (min y.toNat k.bits))
def shrI (k : IntKind) (x y : Int) : Int := x.fdiv (2 ^ (min y.toNat k.bits))
def binI {R : Type} (op : BinOp) (k : IntKind) (x y : Int) (K : Value → Option R) : Option R :=
  match op with
  | .add => K (.int k (k.wrap (x + y)))
  | .sub => K (.int k (k.wrap (x - y)))
  | .mul => K (.int k (k.wrap (x * y)))
  | .quo => bif isZero y then none else K (.int k (k.wrap (x.tdiv y)))
  | .rem => bif isZero y then none else K (.int k (x.tmod y))
  | .and => K (.int k (bitI .and k x y))
  | .or => K (.int k (bitI .or k x y))
  | .xor => K (.int k (bitI .xor k x y))
  | .andNot => K (.int k (bitI .andNot k x y))
  | .shl => bif decide (y < 0) then none else K (.int k (shlI k x y))
  | .shr => bif decide (y < 0) then none else K (.int k (shrI k x y))
  | .eql => K (.bool (x == y))
  | .neq => K (.bool (x != y))
  | .lss => K (.bool (decide (x < y)))
  | .leq => K (.bool (decide (x ≤ y)))
  | .gtr => K (.bool (decide (x > y)))
  | .geq => K (.bool (decide (x ≥ y)))
/-- two interface values that hold integers, or one of them nil -/
def ifEq (T : TT) : Value → Value → Option Bool
  | .nilIface, .iface _ _ => some false
  | .iface _ _, .nilIface => some false
  | .iface t (.int k a), .iface u (.int k' b) => if t = u then (match (T t).d with | .int _ => if k = k' then some (a == b) else none | _ => none) else some false
  | .iface t _, .iface u _ => if t = u then none else some false
  | _, _ => none
def isNil : Value → Option Bool
  | .nilIface => some true
  | .iface _ _ => some false
  | _ => none
def strEq (a b : ByteArray) : Bool := a.toList == b.toList
/-- cells that are compared: integers, bools and strings alone -/
def cellEq : EK → Value → Value → Option Bool
  | .int k, .int a x, .int b y => if a = k ∧ b = k then some (x == y) else none
  | .bool, .bool a, .bool b => some (a == b)
  | .str, .string a, .string b => some (strEq a b)
  | _, _, _ => none
def cellsEq : List EK → List Value → List Value → Option Bool
  | [], [], [] => some true
  | e :: es, x :: xs, y :: ys => (cellEq e x y).bind fun c => bif c then cellsEq es xs ys else (bif Nat.beq xs.length es.length && Nat.beq ys.length es.length then some false else none)
  | _, _, _ => none
def eqK (T : TT) (t : Nat) : List EK := ((T t).eq).getD []
/-- the bytes of some cells -/
def strOf : List Value → Option ByteArray
  | [] => some ByteArray.empty
  | cs => (strGo cs).map fun l => ⟨l.toArray⟩
where
  strGo : List Value → Option (List UInt8)
    | [] => some []
    | .int .u8 n :: cs => (strGo cs).bind fun l => some (UInt8.ofNat n.toNat :: l)
    | _ => none
def binV {R : Type} (T : TT) (d : TD) (eq : Option (List EK)) (op : BinOp) (x y : Value) (yn : Bool) (K : Value → Option R) : Option R :=
  match d with
  | .int _ => match x, y with
    | .int k a, .int k' b => match op with
      | .shl | .shr => binI op k a b K
      | op => if k = k' then binI op k a b K else none
    | _, _ => none
  | .str => match x, y with
    | .string a, .string b => match op with
      | .eql => K (.bool (strEq a b))
      | .neq => K (.bool (!(strEq a b)))
      | _ => none
    | _, _ => none
  | .bool => match op, x, y with
    | .eql, .bool a, .bool b => K (.bool (a == b))
    | .neq, .bool a, .bool b => K (.bool (!(a == b)))
    | _, _, _ => none
  | .ptr _ => match op, x, y with
    | .eql, .pointer a, .pointer none => K (.bool a.isNone)
    | .neq, .pointer a, .pointer none => K (.bool (!a.isNone))
    | _, _, _ => none
  | .slice _ => match op, x, y with
    | .eql, .slice a _ _, .slice none _ _ => K (.bool a.isNone)
    | .neq, .slice a _ _, .slice none _ _ => K (.bool (!a.isNone))
    | _, _, _ => none
  | .struct _ | .array _ _ => match op, x, y with
    | .eql, .agg a, .agg b => eq.bind fun ks => (cellsEq ks a.toList b.toList).bind fun c => K (.bool c)
    | .neq, .agg a, .agg b => eq.bind fun ks => (cellsEq ks a.toList b.toList).bind fun c => K (.bool (!c))
    | _, _, _ => none
  | .iface => match op with
    | .eql => bif yn then (isNil x).bind fun c => K (.bool c) else (ifEq T x y).bind fun c => K (.bool c)
    | .neq => bif yn then (isNil x).bind fun c => K (.bool (!c)) else (ifEq T x y).bind fun c => K (.bool (!c))
    | _ => none
  | _ => none
def isNilConst : Operand → Bool
  | .const .nilIface => true
  | _ => false

def minI (x y : Int) : Int := if y < x then y else x
def maxI (x y : Int) : Int := if y > x then y else x

/-- a struct's or array's parts put into its zero -/
def putAt (cs : List Value) (i n : Nat) (vs : List Value) : List Value := cs.take i ++ vs ++ cs.drop (i + n)
/-- a guard that the kernel opens ahead of any `cond` -/
def gN1 (b : Bool) : Bool := b
def gN2 (b : Bool) : Bool := gN1 b
def gN3 (b : Bool) : Bool := gN2 b
def gN4 (b : Bool) : Bool := gN3 b
def gN {R : Type} (b : Bool) (x : Option R) : Option R := match gN4 b with
  | true => x
  | false => none
theorem gN_eq {R : Type} (b : Bool) (x : Option R) : gN b x = bif b then x else none := by cases b <;> rfl
def fillS {R : Type} (T : TT) (fs : List (Nat × Nat)) (e : Env) (N : Nat) : List (Nat × Operand) → List Value → (List Value → Option R) → Option R
  | [], cs, K => K cs
  | (i, x) :: ps, cs, K => match fs[i]?, opnd e x with
    | some (t, off), some v => cellsT T t v fun vs => gN (Nat.ble (off + (T t).size) N) (fillS T fs e N ps (putAt cs off (T t).size vs) K)
    | _, _ => none
def fillA {R : Type} (T : TT) (t : Nat) (e : Env) (N : Nat) : List (Nat × Operand) → List Value → (List Value → Option R) → Option R
  | [], cs, K => K cs
  | (i, x) :: ps, cs, K => match opnd e x with
    | some v => cellsT T t v fun vs => gN (Nat.ble (i * (T t).size + (T t).size) N) (fillA T t e N ps (putAt cs (i * (T t).size) (T t).size vs) K)
    | _ => none
def repl (n : Nat) (zs : List Value) : List Value := (List.replicate n zs).flatten

/-- what a slice holds -/
def rdSl (m : Mem) (p : Option Addr) (n z : Nat) : Option (List Value) :=
  match p with
  | none => if n = 0 then some [] else none
  | some a => if n * z = 0 then some [] else ldCells m a (n * z)
def most : Nat := 140737488355328
def bytesOf (s : ByteArray) : List Value := s.data.toList.map fun b => .int .u8 b.toNat
/-- append: what is appended has been read already; z: the cells of an element, y: its bytes -/
def appM (z y : Nat) (m : Mem) (p : Option Addr) (n c : Nat) (l : Nat) (new : List Value) : Option (Sl × Mem) :=
  if n + l ≤ c then
    match p with
    | none => if n + l = 0 then some (⟨none, 0, c⟩, m) else none
    | some a => (stCells m (plus a (n * z)) new).bind fun m' => some (⟨some a, n + l, c⟩, m')
  else if (n + l) * y ≤ most ∧ n + l ≤ most then
    match p with
    | none => if n = 0 then some (⟨some ⟨m.length, 0, some z⟩, l, l⟩, m ++ [.live new]) else none
    | some a => (ldCells m a (n * z)).bind fun old =>
      match a.spot with
      | none => some (⟨some ⟨m.length, 0, some z⟩, n + l, n + l⟩, m ++ [.live (old ++ new)])
      | some z' => if z' = z then (m.wcells a.block).bind fun _ => some (⟨some ⟨m.length, 0, some z⟩, n + l, n + l⟩, m.set a.block .dead ++ [.live (old ++ new)]) else none
  else none

abbrev Fun (R : Type) := Nat → List Value → Mem → (Value → Mem → Option R) → Option R

structure Ctx (R : Type) where
  T : TT
  call : Fun R
  loop : Nat → List Value → Mem → (Nat → List Value → Mem → Option R) → Option R   -- see exec
  heads : List (Nat × List Nat)   -- of a loop: the slots that live at its head
  outs : List (Nat × List Nat)    -- of a way out of a loop: 0: return; id + 1: to a block's end: the slots that live there

def sliceK {R : Type} (T : TT) (t : Nat) (x : Value) (lo hi mx : Option Value) (K : Value → Option R) : Option R :=
  match (T t).d, x with
  | .str, .string s => match lo, hi, mx with
    | none, none, none => K (.string (s.extract 0 s.size))
    | some (.int _ l), none, none => bif inUpto l s.size then K (.string (s.extract l.toNat s.size)) else none
    | none, some (.int _ h), none => bif inUpto h s.size then K (.string (s.extract 0 h.toNat)) else none
    | some (.int _ l), some (.int _ h), none => bif inUpto h s.size && inUpto l h.toNat then K (.string (s.extract l.toNat h.toNat)) else none
    | _, _, _ => none
  | .slice el, .slice p n c => go p n c (T el).size false K lo hi mx
  | .array n el, .pointer (some a) => go (some a) n n (T el).size true K lo hi mx
  | _, _ => none
where
  go (p : Option Addr) (n c z : Nat) (arr : Bool) (K : Value → Option R) (lo hi mx : Option Value) : Option R :=
    match lo, hi, mx with
    | none, none, none => K (.slice (clear p arr) n c)
    | some (.int _ l), none, none => bif okZ p z arr && inUpto l n then K (.slice ((clear p arr).map fun a => plus a (l.toNat * z)) (n - l.toNat) (c - l.toNat)) else none
    | none, some (.int _ h), none => bif inUpto h c then K (.slice (clear p arr) h.toNat c) else none
    | some (.int _ l), some (.int _ h), none => bif okZ p z arr && inUpto h c && inUpto l h.toNat then K (.slice ((clear p arr).map fun a => plus a (l.toNat * z)) (h.toNat - l.toNat) (c - l.toNat)) else none
    | some (.int _ l), some (.int _ h), some (.int _ x) => bif inUpto x c && inUpto h x.toNat && inUpto l h.toNat then K (.slice ((clear p true).map fun a => plus a (l.toNat * z)) (h.toNat - l.toNat) (x.toNat - l.toNat)) else none
    | none, some (.int _ h), some (.int _ x) => bif inUpto x c && inUpto h x.toNat then K (.slice (clear p true) h.toNat x.toNat) else none
    | _, _, _ => none
  okZ (p : Option Addr) (z : Nat) (arr : Bool) : Bool := bif arr then true else match p with | none => true | some a => match a.spot with | none => true | some y => Nat.beq y z
  clear (p : Option Addr) (b : Bool) : Option Addr := bif b then p.map fun a => ⟨a.block, a.off, none⟩ else p

def isU8 : TD → Bool
  | .int .u8 => true
  | _ => false
def isIntT : TD → Bool
  | .int _ => true
  | _ => false
def isZ8 : List Value → Bool
  | [.int .u8 n] => decide (n = 0)
  | _ => false
def notInt : TD → Bool
  | .slice _ | .str => true
  | _ => false
def oper {R : Type} (C : Ctx R) (op : Op) (e : Env) (m : Mem) (K : Value → Mem → Option R) : Option R :=
  match op with
  | .move x | .assign x => match opnd e x with | some v => K v m | none => none
  | .pick c a b => match opnd e c with
    | some (.bool t) => bif t then (match opnd e a with | some v => K v m | none => none) else (match opnd e b with | some v => K v m | none => none)
    | _ => none
  | .alloc t => match (C.T t).d with
    | .other => none
    | _ => K (ptrTo m.length) (m ++ [.live (C.T t).zero])
  | .box t x => match opnd e x with
    | some v => cellsT C.T t v fun cs => K (ptrTo m.length) (m ++ [.live cs])
    | none => none
  | .build t ps => match (C.T t).d with
    | .struct fs => fillS C.T fs e (C.T t).size ps.toList (C.T t).zero fun cs => K (.agg ⟨cs⟩) m
    | .array _ el => fillA C.T el e (C.T t).size ps.toList (C.T t).zero fun cs => K (.agg ⟨cs⟩) m
    | _ => none
  | .buildSlice t n ps => match (C.T t).d with
    | .slice el => bif Nat.ble (n * (C.T el).size) 16777216 then fillA C.T el e (n * (C.T el).size) ps.toList (repl n (C.T el).zero) fun cs => K (.slice (some ⟨m.length, 0, none⟩) n n) (m ++ [.live cs]) else none
    | _ => none
  | .load t x => match opnd e x with
    | some (.pointer (some a)) => ldT C.T t m a fun v => K v m
    | _ => none
  | .store t x y => match opnd e x, opnd e y with
    | some (.pointer (some a)), some v => stT C.T t m a v fun m' => K (.tuple #[]) m'
    | _, _ => none
  | .nilCheck x => match opnd e x with
    | some (.pointer p) => p.bind fun a => K (.pointer (some a)) m
    | _ => none
  | .fieldAddr t x f => match (C.T t).d, opnd e x with
    | .struct fs, some (.pointer (some a)) => match fs[f]? with
      | some (ft, off) => bif Nat.beq (C.T ft).size 0 then none else K (.pointer (some (plus a off))) m
      | none => none
    | _, _ => none
  | .field t x f => match (C.T t).d, opnd e x with
    | .struct fs, some (.agg cs) => match fs[f]? with
      | some (ft, off) => getT C.T ft cs.toList off fun v => K v m
      | none => none
    | _, _ => none
  | .indexAddr t x ix => match (C.T t).d, opnd e x, opnd e ix with
    | .array n el, some (.pointer (some a)), some (.int _ i) => bif inRange i n then K (.pointer (some (plus a (i.toNat * (C.T el).size)))) m else none
    | .slice el, some (.slice p n _), some (.int _ i) => bif inRange i n then p.bind fun a => K (.pointer (some (plus a (i.toNat * (C.T el).size)))) m else none
    | _, _, _ => none
  | .index t x ix => match (C.T t).d, opnd e x, opnd e ix with
    | .array n el, some (.agg cs), some (.int _ i) => bif inRange i n then getT C.T el cs.toList (i.toNat * (C.T el).size) fun v => K v m else none
    | .str, some (.string s), some (.int _ i) => bif inRange i s.size then K (.int .u8 ((s.data.toList.getD i.toNat 0).toNat : Nat)) m else none
    | _, _, _ => none
  | .binOp op t x y _ => match opnd e x, opnd e y with
    | some a, some b => binV C.T (C.T t).d (C.T t).eq op a b (isNilConst y) fun v => K v m
    | _, _ => none
  | .unOp op _ x => match op, opnd e x with
    | .not, some (.bool b) => K (.bool (!b)) m
    | .neg, some (.int k n) => K (.int k (k.wrap (0 - n))) m
    | .xor, some (.int k n) => K (.int k (bitI .xor k (if k.signed then -1 else k.max) n)) m
    | _, _ => none
  | .convert s t x => match (C.T s).d, (C.T t).d, opnd e x with
    | .int _, .int k, some (.int _ n) => K (.int k (k.wrap n)) m
    | .str, .str, some (.string s) => K (.string s) m
    | .slice el, .str, some (.slice p n _) => bif isU8 (C.T el).d then (rdSl m p n 1).bind fun cs => (strOf cs).bind fun s => K (.string s) m else none
    | _, _, _ => none
  | .makeInterface t x => match (C.T t).d, opnd e x with
    | .iface, _ => none
    | .other, _ => none
    | _, some v => K (.iface t v) m
    | _, none => none
  | .makeFunc fn first captured => match fn, opnds e first.toList, opnds e captured.toList with
    | .func f, some fa, some ca => K (.func (.func f) ⟨fa⟩ ⟨ca⟩) m
    | _, _, _ => none
  | .makeSlice t l c => match (C.T t).d, opnd e l, opnd e c with
    | .slice el, some (.int .i64 l), some (.int .i64 c) =>
      bif decide (0 ≤ l) && decide (l ≤ c) && decide (c * (C.T el).bytes ≤ most) && decide (c ≤ most) then
        K (.slice (some ⟨m.length, 0, none⟩) l.toNat c.toNat) (m ++ [.live (repl c.toNat (C.T el).zero)])
      else none
    | _, _, _ => none
  | .slice t x lo hi mx => match opnd e x, opO e lo, opO e hi, opO e mx with
    | some x, some lo, some hi, some mx => sliceK C.T t x lo hi mx fun v => K v m
    | _, _, _, _ => none
  | .extract x i => match opnd e x with
    | some (.tuple vs) => match vs.toList[i]? with | some v => K v m | none => none
    | _ => none
  | .call c => match c.callee with
    | .value (.func f) => match opnds e c.args.toList with
      | some vs => C.call f vs m K
      | none => none
    | .value (.tmp t) => match lk t e, opnds e c.args.toList with
      | some (.func (.func f) fa ca), some vs => C.call f (fa.toList ++ vs ++ ca.toList) m K
      | _, _ => none
    | .builtin .len => match c.argTypes.toList, opnds e c.args.toList with
      | [t], some [v] => match (C.T t).d, v with
        | .slice _, .slice _ n _ => K (.int .i64 (n : Int)) m
        | .str, .string s => K (.int .i64 (s.size : Int)) m
        | .array n _, _ => K (.int .i64 (n : Int)) m
        | _, _ => none
      | _, _ => none
    | .builtin .append => match c.argTypes.toList, opnds e c.args.toList with
      | [t, t2], some [.slice p n cp, x] => match (C.T t).d, x with
        | .slice el, .slice q l _ => bif notInt (C.T t2).d then (rdSl m q l (C.T el).size).bind fun new => (appM (C.T el).size (C.T el).bytes m p n cp l new).bind fun r => K (.slice r.1.a r.1.len r.1.cap) r.2 else none
        | .slice el, .string s => bif notInt (C.T t2).d && Nat.beq (C.T el).size 1 then (appM 1 (C.T el).bytes m p n cp s.size (bytesOf s)).bind fun r => K (.slice r.1.a r.1.len r.1.cap) r.2 else none
        | .slice el, .int _ l => bif isIntT (C.T t2).d && Nat.beq (C.T el).size 1 && Nat.beq (C.T el).bytes 1 && isZ8 (C.T el).zero && decide (0 < l) && decide (l ≤ 1000000) then (appM (C.T el).size (C.T el).bytes m p n cp l.toNat (repl l.toNat [.int .u8 0])).bind fun r => K (.slice r.1.a r.1.len r.1.cap) r.2 else none
        | _, _ => none
      | _, _ => none
    | .builtin .copy => match c.argTypes.toList, opnds e c.args.toList with
      | t :: _, some [.slice p n _, x] => match (C.T t).d, x with
        | .slice el, .slice q l _ => (rdSl m q (min l n) (C.T el).size).bind fun new => (stSl m p new).bind fun m' => K (.int .i64 ((min l n : Nat) : Int)) m'
        | .slice el, .string s => bif Nat.beq (C.T el).size 1 then (stSl m p ((bytesOf s).take (min s.size n))).bind fun m' => K (.int .i64 ((min s.size n : Nat) : Int)) m' else none
        | _, _ => none
      | _, _ => none
    | .builtin .min => match opnds e c.args.toList with
      | some [.int k a, .int k' b] => if k = k' then K (.int k (minI a b)) m else none
      | _ => none
    | .builtin .max => match opnds e c.args.toList with
      | some [.int k a, .int k' b] => if k = k' then K (.int k (maxI a b)) m else none
      | _ => none
    | _ => none
  | _ => none
where
  stSl (m : Mem) (p : Option Addr) (new : List Value) : Option Mem :=
    match p with
    | none => if new = [] then some m else none
    | some a => stCells m a new

/-- the slot of a region's operation -/
def slotOf (all : List Oper) (j : Nat) : Option Nat := (all[j]?).bind (·.dst)
def putE (e : Env) (dst : Option Nat) (v : Value) : Env := match dst with | some d => (d, v) :: e | none => e

def opsX {R : Type} (C : Ctx R) (all : List Oper) : List Oper → Env → Mem → (Env → Mem → Option R) → Option R
  | [], e, m, K => K e m
  | o :: os, e, m, K =>
    match o.guard with
    | none => oper C o.op e m fun v m' => opsX C all os (putE e o.dst v) m' K
    | some (j, want) => match slotOf all j with
      | none => none
      | some s => match lk s e with
        | some (.bool t) => bif t
            then (bif want then oper C o.op ((s, .bool true) :: e) m fun v m' => opsX C all os (putE ((s, .bool true) :: e) o.dst v) m' K
                  else opsX C all os (putE ((s, .bool true) :: e) o.dst (.tuple #[])) m K)
            else (bif want then opsX C all os (putE ((s, .bool false) :: e) o.dst (.tuple #[])) m K
                  else oper C o.op ((s, .bool false) :: e) m fun v m' => opsX C all os (putE ((s, .bool false) :: e) o.dst v) m' K)
        | some (.tuple _) => opsX C all os (putE e o.dst (.tuple #[])) m K
        | _ => none

/-! ## regions that draw their order: their operations in any order that the edges leave open -/
/-- may the operation change the memory? -/
def effB : Op → Bool
  | .alloc _ | .box _ _ | .buildSlice _ _ _ | .store _ _ _ | .makeSlice _ _ _ => true
  | .call c => match c.callee with
    | .builtin .len | .builtin .min | .builtin .max => false
    | _ => true
  | _ => false
def loadB : Op → Bool
  | .load _ _ => true
  | _ => false
def preOf (o : Oper) : List Nat := o.after.toList.filterMap fun e => bif Region.binds .any e then some e.on else none
def cloOf : List Oper → List (List Nat) → List (List Nat)
  | [], acc => acc
  | o :: os, acc => cloOf os (acc ++ [preOf o ++ (preOf o).flatMap fun j => acc.getD j []])
def opT (x : Operand) : Option Nat := match x with
  | .tmp t => some t
  | _ => none
def readsO (all : List Oper) (o : Oper) : List Nat := o.op.operands.toList.filterMap opT ++ (match o.guard with
  | some (g, _) => (slotOf all g).toList
  | none => [])
def hasN (l : List Nat) (n : Nat) : Bool := l.any fun x => Nat.beq x n
def dstIs (o : Oper) (t : Nat) : Bool := match o.dst with
  | some d => Nat.beq d t
  | none => false
def ordB (i j : Nat) : Bool := Nat.ble (i + 1) j
def allI (p : Nat → Oper → Bool) : Nat → List Oper → Bool
  | _, [] => true
  | i, o :: os => p i o && allI p (i + 1) os
def oneOkI (cs : List (List Nat)) (i : Nat) (o : Oper) : Bool :=
  (preOf o).all (fun k => ordB k i) && (cs.getD i []).all fun k => hasN (preOf o) k || (preOf o).any fun j => hasN (cs.getD j []) k
def pairOkI (all : List Oper) (cs : List (List Nat)) (i : Nat) (oi : Oper) (j : Nat) (oj : Oper) : Bool :=
  Nat.beq i j || ((match oj.dst with
    | none => true
    | some d => !(dstIs oi d) && (!(hasN (readsO all oi) d) || hasN (preOf oi) j || hasN (preOf oj) i)) && (!(effB oi.op && effB oj.op && ordB j i) || hasN (cs.getD i []) j))
def drawOk (all : List Oper) (cs : List (List Nat)) : Bool :=
  allI (fun i oi => oneOkI cs i oi && allI (fun j oj => pairOkI all cs i oi j oj) 0 all) 0 all
/-- may a load, number i, come up where j operations of the row have changed the memory? -/
def mayB (all : List Oper) (cs : List (List Nat)) (i j : Nat) : Bool :=
  allI (fun k o => !(effB o.op) || ((!(hasN (cs.getD i []) k) || ordB k j) && (!(hasN (cs.getD k []) i) || Nat.ble j k))) 0 all
def canB (all : List Oper) (j : Nat) : Bool := match j with
  | 0 => true
  | j + 1 => match all[j]? with
    | some o => effB o.op
    | none => false
def apartB (all : List Oper) (i j : Nat) : Bool :=
  !(allI (fun k o => !(effB o.op) || !((Nat.ble i k && ordB k j) || (Nat.ble j k && ordB k i))) 0 all)
def memsOf (all : List Oper) (cs : List (List Nat)) (ms : List Mem) (i : Nat) : List Mem :=
  (List.range ms.length).filterMap fun j => bif mayB all cs i j && canB all j && apartB all i j then ms[j]? else none
def veq1 : Value → Value → Bool
  | .int k a, .int k' b => decide (k = k') && (a == b)
  | .bool a, .bool b => a == b
  | .string a, .string b => decide (a.data = b.data)
  | .pointer a, .pointer b => decide (a = b)
  | .slice a n c, .slice b n' c' => decide (a = b) && Nat.beq n n' && Nat.beq c c'
  | .map a, .map b => decide (a = b)
  | .nilIface, .nilIface => true
  | .iface t (.int k a), .iface t' (.int k' b) => Nat.beq t t' && decide (k = k') && (a == b)
  | _, _ => false
def veqs : List Value → List Value → Bool
  | [], [] => true
  | x :: xs, y :: ys => veq1 x y && veqs xs ys
  | _, _ => false
def veq : Value → Value → Bool
  | .agg a, .agg b => veqs a.toList b.toList
  | a, b => veq1 a b
structure Ld where
  i : Nat
  t : Nat
  a : Addr
  v : Value
def chkM {R : Type} (T : TT) (t : Nat) (a : Addr) (v : Value) (k : Option R) : List Mem → Option R
  | [] => k
  | m :: ms => ldT T t m a fun v' => bif veq v' v then chkM T t a v k ms else none
def chkL {R : Type} (T : TT) (mems : Nat → List Mem) : List Ld → Option R → Option R
  | [], k => k
  | l :: ls, k => chkM T l.t l.a l.v (chkL T mems ls k) (mems l.i)
def addL (op : Op) (i : Nat) (e : Env) (v : Value) (ls : List Ld) : List Ld :=
  match op with
  | .load t x => match opnd e x with
    | some (.pointer (some a)) => ls ++ [⟨i, t, a, v⟩]
    | _ => ls
  | _ => ls
def drawX {R : Type} (C : Ctx R) (all : List Oper) (cs : List (List Nat)) : Nat → List Oper → Env → Mem → List Mem → List Ld → (Env → Mem → Option R) → Option R
  | _, [], e, m, ms, ls, K => chkL C.T (memsOf all cs ms) ls (K e m)
  | i, o :: os, e, m, ms, ls, K =>
    match o.guard with
    | none => oper C o.op e m fun v m' => drawX C all cs (i + 1) os (putE e o.dst v) m' (ms ++ [m']) (addL o.op i e v ls) K
    | some (j, want) => match slotOf all j with
      | none => none
      | some s => match lk s e with
        | some (.bool t) => bif t
            then (bif want then oper C o.op ((s, .bool true) :: e) m fun v m' => drawX C all cs (i + 1) os (putE ((s, .bool true) :: e) o.dst v) m' (ms ++ [m']) (addL o.op i ((s, .bool true) :: e) v ls) K
                  else drawX C all cs (i + 1) os (putE ((s, .bool true) :: e) o.dst (.tuple #[])) m (ms ++ [m]) ls K)
            else (bif want then drawX C all cs (i + 1) os (putE ((s, .bool false) :: e) o.dst (.tuple #[])) m (ms ++ [m]) ls K
                  else oper C o.op ((s, .bool false) :: e) m fun v m' => drawX C all cs (i + 1) os (putE ((s, .bool false) :: e) o.dst v) m' (ms ++ [m']) (addL o.op i ((s, .bool false) :: e) v ls) K)
        | some (.tuple _) => drawX C all cs (i + 1) os (putE e o.dst (.tuple #[])) m (ms ++ [m]) ls K
        | _ => none
/-- no conversion that reads the memory -/
def pureConv (T : TT) : Op → Bool
  | .convert s t _ => match (T s).d, (T t).d with
    | .slice _, .str => false
    | _, _ => true
  | _ => true
/-- the whole of such a region -/
def regX {R : Type} (C : Ctx R) (all : List Oper) (e : Env) (m : Mem) (K : Env → Mem → Option R) : Option R :=
  bif drawOk all (cloOf all []) && all.all (fun o => pureConv C.T o.op) then drawX C all (cloOf all []) 0 all e m [m] [] K else none

/-- how a piece of code is left: 0: by a return; 1: at its end; id + 2: to a block's end -/
abbrev KX (R : Type) := Nat → Env → Mem → Option R

def getAll (e : Env) : List Nat → Option (List Value)
  | [] => some []
  | t :: ts => match lk t e, getAll e ts with
    | some v, some vs => some (v :: vs)
    | _, _ => none

def exec {R : Type} (C : Ctx R) : Nat → Code → Env → Mem → KX R → Option R
  | _, .skip, e, m, K => K 1 e m
  | _, .region _ os draw, e, m, K => bif draw then regX C os.toList e m fun e m => K 1 e m else opsX C os.toList os.toList e m fun e m => K 1 e m
  | cur, .seq a b, e, m, K => exec C cur a e m fun x e' m' => match x with
    | 1 => exec C cur b e' m' K
    | x => K x e' m'
  | cur, .cond c a b, e, m, K => match opnd e c with
    | some (.bool t) => bif t then exec C cur a e m K else exec C cur b e m K
    | _ => none
  | _, .block id c, e, m, K => exec C id c e m fun x e' m' => bif Nat.beq x (id + 2) then K 1 e' m' else K x e' m'
  | cur, .loop _, e, m, K => match lk cur C.heads with
    | some ls => match getAll e ls with
      | some vs => C.loop cur vs m fun x vs' m' => match lk x C.outs with
        | some lx => K x (lx.zip vs') m'
        | none => none
      | none => none
    | none => none
  | cur, .scope c, e, m, K => exec C cur c e m K
  | _, .label _, e, m, K => K 1 e m
  | _, .exit id, e, m, K => K (id + 2) e m
  | _, .ret, e, m, K => K 0 e m
  | _, _, _, _, _ => none

/-- how a round of a loop goes on: the next round, or out of the loop -/
def goOn {R : Type} (ls : List Nat) (outs : List (Nat × List Nat)) (nx : List Value → Mem → Option R) (K : Nat → List Value → Mem → Option R) : KX R := fun x e m =>
  match x with
  | 1 => match getAll e ls with
    | some vs => nx vs m
    | none => none
  | x => match lk x outs with
    | some lx => match getAll e lx with
      | some vs => K x vs m
      | none => none
    | none => none

/-- the loops of a function: the block round each, and its body -/
def loopsOf : Nat → Code → List (Nat × Code)
  | cur, .seq a b => loopsOf cur a ++ loopsOf cur b
  | cur, .cond _ a b => loopsOf cur a ++ loopsOf cur b
  | _, .block id c => loopsOf id c
  | cur, .loop c => (cur, c) :: loopsOf cur c
  | cur, .scope c => loopsOf cur c
  | _, _ => []

/-- a whole function: its results, told by K -/
def resT {R : Type} (T : TT) (e : Env) (m : Mem) : List ResultVar → (List Value → Option R) → Option R
  | [], K => K []
  | .tmp t :: rs, K => match lk t e with
    | some v => resT T e m rs fun vs => K (v :: vs)
    | none => none
  | .cell a t :: rs, K => match lk a e with
    | some (.pointer (some a)) => ldT T t m a fun v => resT T e m rs fun vs => K (v :: vs)
    | _ => none
def oneOf : List Value → Value
  | [v] => v
  | vs => .tuple ⟨vs⟩
def paramsE (n : Nat) : List Value → Env
  | [] => []
  | v :: vs => (n, v) :: paramsE (n + 1) vs
def body (f : Func) : Code := match f.body with | some c => c | none => .skip
def fnX {R : Type} (C : Ctx R) (f : Func) (args : List Value) (m : Mem) (K : Value → Mem → Option R) : Option R :=
  exec C 0 (body f) (paramsE 0 args) m fun x e m' => match x with
    | 0 => resT C.T e m' f.results.toList fun vs => K (oneOf vs) m'
    | 1 => resT C.T e m' f.results.toList fun vs => K (oneOf vs) m'
    | _ => none

end Go.Mx
