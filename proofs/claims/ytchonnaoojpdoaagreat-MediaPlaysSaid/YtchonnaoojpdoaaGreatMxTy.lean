import Derived.Calls
import Derived.KernelRfl
import Derived.Laws.Sem
import Derived.Laws.Cells
set_option linter.unusedVariables false
namespace Go.Mx
inductive MObj where
 | live (cs:List Value)
 | ro (cs:List Value)
 | dead
 | old (cs:List Value) (q:Nat)
 deriving Inhabited
abbrev Mem:=List MObj
abbrev Env:=List (Nat × Value)
def lk {α:Type} (t:Nat):List (Nat × α) → Option α
 | [] => none
 | (u,v) :: e => bif Nat.beq u t then some v else lk t e
def MObj.cells:MObj → Option (List Value)
 | .live cs => some cs
 | .ro cs => some cs
 | _ => none
def MObj.wcells:MObj → Option (List Value)
 | .live cs => some cs
 | _ => none
def veq1:Value → Value → Bool
 | .int k a,.int k' b => decide (k = k') && (a == b)
 | .bool a,.bool b => a == b
 | .string a,.string b => decide (a.data = b.data)
 | .pointer a,.pointer b => decide (a = b)
 | .slice a n c,.slice b n' c' => decide (a = b) && Nat.beq n n' && Nat.beq c c'
 | .map a,.map b => decide (a = b)
 | .nilIface,.nilIface => true
 | .iface t (.int k a),.iface t' (.int k' b) => Nat.beq t t' && decide (k = k') && (a == b)
 | _,_ => false
def veqs:List Value → List Value → Bool
 | [],[] => true
 | x :: xs,y :: ys => veq1 x y && veqs xs ys
 | _,_ => false
def preB (cs cs':List Value):Bool:=veqs cs (cs'.take cs.length)
def oldB (m:Mem):Nat → List Value → Nat → Bool
 | 0,_,_ => false
 | f + 1,cs,q => match m[q]? with
  | some (.live cs') => preB cs cs'
  | some (.old cs' q') => preB cs cs' && oldB m f cs' q'
  | _ => false
def Mem.cells (m:Mem) (b:Nat):Option (List Value):=(m[b]?).bind fun o => match o with
 | .old cs q => bif oldB m m.length cs q then some cs else none
 | o => o.cells
def Mem.wcells (m:Mem) (b:Nat):Option (List Value):=(m[b]?).bind MObj.wcells
def cInt (k:IntKind) (cs:List Value) (i:Nat):Option Int :=
 match cs[i]? with
 | some (.int k' n) => if k' = k then some n else none
 | _ => none
def cBool (cs:List Value) (i:Nat):Option Bool :=
 match cs[i]? with
 | some (.bool b) => some b
 | _ => none
def cPtr (cs:List Value) (i:Nat):Option (Option Addr) :=
 match cs[i]? with
 | some (.pointer p) => some p
 | _ => none
structure Sl where
 a:Option Addr
 len:Nat
 cap:Nat
 deriving Inhabited
def cSl (cs:List Value) (i:Nat):Option Sl :=
 match cs[i]? with
 | some (.slice a l c) => some ⟨a,l,c⟩
 | _ => none
def cStr (cs:List Value) (i:Nat):Option ByteArray :=
 match cs[i]? with
 | some (.string s) => some s
 | _ => none
def cMap (cs:List Value) (i:Nat):Option (Option Nat) :=
 match cs[i]? with
 | some (.map r) => some r
 | _ => none
def isOne:Value → Bool
 | .agg _ | .tuple _ => false
 | _ => true
def cVal (cs:List Value) (i:Nat):Option Value:=cs[i]?
def cCells (cs:List Value) (i n:Nat):Option (List Value) :=
 if i + n ≤ cs.length then some ((cs.drop i).take n) else none
def setCells (cs:List Value) (i:Nat) (vs:List Value):Option (List Value) :=
 if i + vs.length ≤ cs.length then some (cs.take i ++ vs ++ cs.drop (i + vs.length)) else none
def setCell (cs:List Value) (i:Nat) (v:Value):Option (List Value) :=
 if i < cs.length then some (cs.set i v) else none
def ldInt (k:IntKind) (m:Mem) (a:Addr):Option Int:=(m.cells a.block).bind fun cs => cInt k cs a.off
def ldBool (m:Mem) (a:Addr):Option Bool:=(m.cells a.block).bind fun cs => cBool cs a.off
def ldPtr (m:Mem) (a:Addr):Option (Option Addr):=(m.cells a.block).bind fun cs => cPtr cs a.off
def ldSl (m:Mem) (a:Addr):Option Sl:=(m.cells a.block).bind fun cs => cSl cs a.off
def ldStr (m:Mem) (a:Addr):Option ByteArray:=(m.cells a.block).bind fun cs => cStr cs a.off
def ldMap (m:Mem) (a:Addr):Option (Option Nat):=(m.cells a.block).bind fun cs => cMap cs a.off
def ldVal (m:Mem) (a:Addr):Option Value:=(m.cells a.block).bind fun cs => cVal cs a.off
def ldCells (m:Mem) (a:Addr) (n:Nat):Option (List Value):=(m.cells a.block).bind fun cs => cCells cs a.off n
def st (m:Mem) (a:Addr) (v:Value):Option Mem :=
 (m.wcells a.block).bind fun cs => (setCell cs a.off v).bind fun cs' => some (m.set a.block (.live cs'))
def stCells (m:Mem) (a:Addr) (vs:List Value):Option Mem :=
 (m.wcells a.block).bind fun cs => (setCells cs a.off vs).bind fun cs' => some (m.set a.block (.live cs'))
def plus (a:Addr) (n:Nat):Addr:=⟨a.block,a.off + n,a.spot⟩
def new (m:Mem) (cs:List Value):Mem:=m ++ [.live cs]
def ptrTo (n:Nat):Value:=.pointer (some ⟨n,0,none⟩)
inductive TD where
 | int (k:IntKind) | bool | str | ptr (e:Nat) | slice (e:Nat) | map | struct (fs:List (Nat × Nat)) | array (n e:Nat) | iface | fn | other
inductive EK where | int (k:IntKind) | bool | str
 deriving DecidableEq
structure TI where
 d:TD
 size:Nat
 bytes:Nat
 zero:List Value
 eq:Option (List EK)
abbrev TT:=Nat → TI
def getT {R:Type} (T:TT) (t:Nat) (cs:List Value) (i:Nat) (K:Value → Option R):Option R :=
 match (T t).d with
 | .int k => (cInt k cs i).bind fun n => K (.int k n)
 | .bool => (cBool cs i).bind fun n => K (.bool n)
 | .ptr _ => (cPtr cs i).bind fun n => K (.pointer n)
 | .slice _ => (cSl cs i).bind fun n => K (.slice n.a n.len n.cap)
 | .map => (cMap cs i).bind fun n => K (.map n)
 | .str => (cStr cs i).bind fun n => K (.string n)
 | .struct _ | .array _ _ => (cCells cs i (T t).size).bind fun n => K (.agg ⟨n⟩)
 | .iface | .fn => (cVal cs i).bind fun n => K n
 | .other => none
def ldT {R:Type} (T:TT) (t:Nat) (m:Mem) (a:Addr) (K:Value → Option R):Option R :=
 match (T t).d with
 | .int k => (ldInt k m a).bind fun n => K (.int k n)
 | .bool => (ldBool m a).bind fun n => K (.bool n)
 | .ptr _ => (ldPtr m a).bind fun n => K (.pointer n)
 | .slice _ => (ldSl m a).bind fun n => K (.slice n.a n.len n.cap)
 | .map => (ldMap m a).bind fun n => K (.map n)
 | .str => (ldStr m a).bind fun n => K (.string n)
 | .struct _ | .array _ _ => (ldCells m a (T t).size).bind fun n => K (.agg ⟨n⟩)
 | .iface | .fn => (ldVal m a).bind fun n => K n
 | .other => none
def cellsT {R:Type} (T:TT) (t:Nat) (v:Value) (K:List Value → Option R):Option R :=
 match (T t).d with
 | .struct _ | .array _ _ => match v with
  | .agg cs => bif Nat.beq cs.toList.length (T t).size then K cs.toList else none
  | _ => none
 | .other => none
 | .iface | .fn => bif isOne v then K [v] else none
 | _ => match v with
  | .agg _ | .tuple _ => none
  | v => K [v]
def stT {R:Type} (T:TT) (t:Nat) (m:Mem) (a:Addr) (v:Value) (K:Mem → Option R):Option R :=
 match (T t).d with
 | .struct _ | .array _ _ => match v with
  | .agg cs => bif Nat.beq cs.toList.length (T t).size then (stCells m a cs.toList).bind K else none
  | _ => none
 | .other => none
 | .iface | .fn => bif isOne v then (st m a v).bind K else none
 | _ => match v with
  | .agg _ | .tuple _ => none
  | v => (st m a v).bind K
def inRange (i:Int) (n:Nat):Bool:=decide (0 ≤ i) && decide (i < n)
def inUpto (i:Int) (n:Nat):Bool:=decide (0 ≤ i) && decide (i ≤ n)
def isZero (y:Int):Bool:=decide (y = 0)
def plainV:Value → Bool
 | .bool _ | .int _ _ | .string _ | .pointer none | .slice none 0 0 | .map none | .nilFunc | .nilIface => true
 | _ => false
def opnd (e:Env):Operand → Option Value
 | .tmp t => lk t e
 | .const v => bif plainV v then some v else none
 | .func f => some (.func (.func f) #[] #[])
 | .global _ => none
def opO (e:Env):Option Operand → Option (Option Value)
 | none => some none
 | some x => match opnd e x with
  | some v => some (some v)
  | none => none
def opnds (e:Env):List Operand → Option (List Value)
 | [] => some []
 | x :: xs => match opnd e x,opnds e xs with
  | some v,some vs => some (v :: vs)
  | _,_ => none
def bitI (op:BinOp) (k:IntKind) (x y:Int):Int :=
 let a:=BitVec.ofInt k.bits x
 let b:=BitVec.ofInt k.bits y
 match op with
 | .and => k.wrap (a &&& b).toNat
 | .or => k.wrap (a ||| b).toNat
 | .xor => k.wrap (a ^^^ b).toNat
 | _ => k.wrap (a &&& ~~~b).toNat
def shlI (k:IntKind) (x y:Int):Int:=k.wrap (x * 2 ^ (min y.toNat k.bits))
def shrI (k:IntKind) (x y:Int):Int:=x.fdiv (2 ^ (min y.toNat k.bits))
def binI {R:Type} (op:BinOp) (k:IntKind) (x y:Int) (K:Value → Option R):Option R :=
 match op with
 | .add => K (.int k (k.wrap (x + y)))
 | .sub => K (.int k (k.wrap (x - y)))
 | .mul => K (.int k (k.wrap (x * y)))
 | .quo => bif isZero y then none else K (.int k (k.wrap (x.tdiv y)))
 | .rem => bif isZero y then none else K (.int k (x.tmod y))
 | .and => K (.int k (bitI .and k x y))
 | .or => K (.int k (bitI .or k x y))
 | .xor => K (.int k (bitI .xor k x y))
 | .andNot => K (.int k (bitI .andNot k x y))
 | .shl => bif decide (y < 0) then none else K (.int k (shlI k x y))
 | .shr => bif decide (y < 0) then none else K (.int k (shrI k x y))
 | .eql => K (.bool (x == y))
 | .neq => K (.bool (x != y))
 | .lss => K (.bool (decide (x < y)))
 | .leq => K (.bool (decide (x ≤ y)))
 | .gtr => K (.bool (decide (x > y)))
 | .geq => K (.bool (decide (x ≥ y)))
def ifEq (T:TT):Value → Value → Option Bool
 | .nilIface,.iface _ _ => some false
 | .iface _ _,.nilIface => some false
 | .iface t (.int k a),.iface u (.int k' b) => if t = u then (match (T t).d with | .int _ => if k = k' then some (a == b) else none | _ => none) else some false
 | .iface t _,.iface u _ => if t = u then none else some false
 | _,_ => none
def isNil:Value → Option Bool
 | .nilIface => some true
 | .iface _ _ => some false
 | _ => none
def strEq (a b:ByteArray):Bool:=a.toList == b.toList
def cellEq:EK → Value → Value → Option Bool
 | .int k,.int a x,.int b y => if a = k ∧ b = k then some (x == y) else none
 | .bool,.bool a,.bool b => some (a == b)
 | .str,.string a,.string b => some (strEq a b)
 | _,_,_ => none
def cellsEq:List EK → List Value → List Value → Option Bool
 | [],[],[] => some true
 | e :: es,x :: xs,y :: ys => (cellEq e x y).bind fun c => bif c then cellsEq es xs ys else (bif Nat.beq xs.length es.length && Nat.beq ys.length es.length then some false else none)
 | _,_,_ => none
def eqK (T:TT) (t:Nat):List EK:=((T t).eq).getD []
def strOf:List Value → Option ByteArray
 | [] => some ByteArray.empty
 | cs => (strGo cs).map fun l => ⟨l.toArray⟩
where
 strGo:List Value → Option (List UInt8)
  | [] => some []
  | .int .u8 n :: cs => (strGo cs).bind fun l => some (UInt8.ofNat n.toNat :: l)
  | _ => none
def binV {R:Type} (T:TT) (d:TD) (eq:Option (List EK)) (op:BinOp) (x y:Value) (yn:Bool) (K:Value → Option R):Option R :=
 match d with
 | .int _ => match x,y with
  | .int k a,.int k' b => match op with
   | .shl | .shr => binI op k a b K
   | op => if k = k' then binI op k a b K else none
  | _,_ => none
 | .str => match x,y with
  | .string a,.string b => match op with
   | .eql => K (.bool (strEq a b))
   | .neq => K (.bool (!(strEq a b)))
   | _ => none
  | _,_ => none
 | .bool => match op,x,y with
  | .eql,.bool a,.bool b => K (.bool (a == b))
  | .neq,.bool a,.bool b => K (.bool (!(a == b)))
  | _,_,_ => none
 | .ptr _ => match op,x,y with
  | .eql,.pointer a,.pointer none => K (.bool a.isNone)
  | .neq,.pointer a,.pointer none => K (.bool (!a.isNone))
  | _,_,_ => none
 | .slice _ => match op,x,y with
  | .eql,.slice a _ _,.slice none _ _ => K (.bool a.isNone)
  | .neq,.slice a _ _,.slice none _ _ => K (.bool (!a.isNone))
  | _,_,_ => none
 | .struct _ | .array _ _ => match op,x,y with
  | .eql,.agg a,.agg b => eq.bind fun ks => (cellsEq ks a.toList b.toList).bind fun c => K (.bool c)
  | .neq,.agg a,.agg b => eq.bind fun ks => (cellsEq ks a.toList b.toList).bind fun c => K (.bool (!c))
  | _,_,_ => none
 | .iface => match op with
  | .eql => bif yn then (isNil x).bind fun c => K (.bool c) else (ifEq T x y).bind fun c => K (.bool c)
  | .neq => bif yn then (isNil x).bind fun c => K (.bool (!c)) else (ifEq T x y).bind fun c => K (.bool (!c))
  | _ => none
 | _ => none
def isNilConst:Operand → Bool
 | .const .nilIface => true
 | _ => false
def minI (x y:Int):Int:=if y < x then y else x
def maxI (x y:Int):Int:=if y > x then y else x
def putAt (cs:List Value) (i n:Nat) (vs:List Value):List Value:=cs.take i ++ vs ++ cs.drop (i + n)
def gN1 (b:Bool):Bool:=b
def gN2 (b:Bool):Bool:=gN1 b
def gN3 (b:Bool):Bool:=gN2 b
def gN4 (b:Bool):Bool:=gN3 b
def gN {R:Type} (b:Bool) (x:Option R):Option R:=match gN4 b with
 | true => x
 | false => none
theorem gN_eq {R:Type} (b:Bool) (x:Option R):gN b x = bif b then x else none:=by cases b <;> rfl
def fillS {R:Type} (T:TT) (fs:List (Nat × Nat)) (e:Env) (N:Nat):List (Nat × Operand) → List Value → (List Value → Option R) → Option R
 | [],cs,K => K cs
 | (i,x) :: ps,cs,K => match fs[i]?,opnd e x with
  | some (t,off),some v => cellsT T t v fun vs => gN (Nat.ble (off + (T t).size) N) (fillS T fs e N ps (putAt cs off (T t).size vs) K)
  | _,_ => none
def fillA {R:Type} (T:TT) (t:Nat) (e:Env) (N:Nat):List (Nat × Operand) → List Value → (List Value → Option R) → Option R
 | [],cs,K => K cs
 | (i,x) :: ps,cs,K => match opnd e x with
  | some v => cellsT T t v fun vs => gN (Nat.ble (i * (T t).size + (T t).size) N) (fillA T t e N ps (putAt cs (i * (T t).size) (T t).size vs) K)
  | _ => none
def repl (n:Nat) (zs:List Value):List Value:=(List.replicate n zs).flatten
def rdSl (m:Mem) (p:Option Addr) (n z:Nat):Option (List Value) :=
 match p with
 | none => if n = 0 then some [] else none
 | some a => if n * z = 0 then some [] else ldCells m a (n * z)
def most:Nat:=140737488355328
def bytesOf (s:ByteArray):List Value:=s.data.toList.map fun b => .int .u8 b.toNat
def appM (z y:Nat) (m:Mem) (p:Option Addr) (n c:Nat) (l:Nat) (new:List Value):Option (Sl × Mem) :=
 if n + l ≤ c then
  match p with
  | none => if n + l = 0 then some (⟨none,0,c⟩,m) else none
  | some a => (stCells m (plus a (n * z)) new).bind fun m' => some (⟨some a,n + l,c⟩,m')
 else if (n + l) * y ≤ most ∧ n + l ≤ most then
  match p with
  | none => if n = 0 then some (⟨some ⟨m.length,0,some z⟩,l,l⟩,m ++ [.live new]) else none
  | some a => (ldCells m a (n * z)).bind fun old =>
   match a.spot with
   | none => some (⟨some ⟨m.length,0,some z⟩,n + l,n + l⟩,m ++ [.live (old ++ new)])
   | some z' => if z' = z then (m.wcells a.block).bind fun _ => some (⟨some ⟨m.length,0,some z⟩,n + l,n + l⟩,m.set a.block (bif Nat.beq a.off 0 then .old old m.length else .dead) ++ [.live (old ++ new)]) else none
 else none
abbrev Fun (R:Type):=Nat → List Value → Mem → (Value → Mem → Option R) → Option R
def callV {R:Type} (call:Fun R) (v:Value) (vs:List Value) (m:Mem) (K:Value → Mem → Option R):Option R:=match v with
 | .func (.func f) fa ca => call f (fa.toList ++ vs ++ ca.toList) m K
 | _ => none
structure Ctx (R:Type) where
 T:TT
 call:Fun R
 loop:Nat → List Value → Mem → (Nat → List Value → Mem → Option R) → Option R
 heads:List (Nat × List Nat)
 outs:List (Nat × List Nat)
def sliceK {R:Type} (T:TT) (t:Nat) (x:Value) (lo hi mx:Option Value) (K:Value → Option R):Option R :=
 match (T t).d,x with
 | .str,.string s => match lo,hi,mx with
  | none,none,none => K (.string (s.extract 0 s.size))
  | some (.int _ l),none,none => bif inUpto l s.size then K (.string (s.extract l.toNat s.size)) else none
  | none,some (.int _ h),none => bif inUpto h s.size then K (.string (s.extract 0 h.toNat)) else none
  | some (.int _ l),some (.int _ h),none => bif inUpto h s.size && inUpto l h.toNat then K (.string (s.extract l.toNat h.toNat)) else none
  | _,_,_ => none
 | .slice el,.slice p n c => go p n c (T el).size false K lo hi mx
 | .array n el,.pointer (some a) => go (some a) n n (T el).size true K lo hi mx
 | _,_ => none
where
 go (p:Option Addr) (n c z:Nat) (arr:Bool) (K:Value → Option R) (lo hi mx:Option Value):Option R :=
  match lo,hi,mx with
  | none,none,none => K (.slice (clear p arr) n c)
  | some (.int _ l),none,none => bif okZ p z arr && inUpto l n then K (.slice ((clear p arr).map fun a => plus a (l.toNat * z)) (n - l.toNat) (c - l.toNat)) else none
  | none,some (.int _ h),none => bif inUpto h c then K (.slice (clear p arr) h.toNat c) else none
  | some (.int _ l),some (.int _ h),none => bif okZ p z arr && inUpto h c && inUpto l h.toNat then K (.slice ((clear p arr).map fun a => plus a (l.toNat * z)) (h.toNat - l.toNat) (c - l.toNat)) else none
  | some (.int _ l),some (.int _ h),some (.int _ x) => bif inUpto x c && inUpto h x.toNat && inUpto l h.toNat then K (.slice ((clear p true).map fun a => plus a (l.toNat * z)) (h.toNat - l.toNat) (x.toNat - l.toNat)) else none
  | none,some (.int _ h),some (.int _ x) => bif inUpto x c && inUpto h x.toNat then K (.slice (clear p true) h.toNat x.toNat) else none
  | _,_,_ => none
 okZ (p:Option Addr) (z:Nat) (arr:Bool):Bool:=bif arr then true else match p with | none => true | some a => match a.spot with | none => true | some y => Nat.beq y z
 clear (p:Option Addr) (b:Bool):Option Addr:=bif b then p.map fun a => ⟨a.block,a.off,none⟩ else p
def isU8:TD → Bool
 | .int .u8 => true
 | _ => false
def isIntT:TD → Bool
 | .int _ => true
 | _ => false
def isZ8:List Value → Bool
 | [.int .u8 n] => decide (n = 0)
 | _ => false
def notInt:TD → Bool
 | .slice _ | .str => true
 | _ => false
def oper {R:Type} (C:Ctx R) (op:Op) (e:Env) (m:Mem) (K:Value → Mem → Option R):Option R :=
 match op with
 | .move x | .assign x => match opnd e x with | some v => K v m | none => none
 | .pick c a b => match opnd e c with
  | some (.bool t) => bif t then (match opnd e a with | some v => K v m | none => none) else (match opnd e b with | some v => K v m | none => none)
  | _ => none
 | .alloc t => match (C.T t).d with
  | .other => none
  | _ => K (ptrTo m.length) (m ++ [.live (C.T t).zero])
 | .box t x => match opnd e x with
  | some v => cellsT C.T t v fun cs => K (ptrTo m.length) (m ++ [.live cs])
  | none => none
 | .build t ps => match (C.T t).d with
  | .struct fs => fillS C.T fs e (C.T t).size ps.toList (C.T t).zero fun cs => K (.agg ⟨cs⟩) m
  | .array _ el => fillA C.T el e (C.T t).size ps.toList (C.T t).zero fun cs => K (.agg ⟨cs⟩) m
  | _ => none
 | .buildSlice t n ps => match (C.T t).d with
  | .slice el => bif Nat.ble (n * (C.T el).size) 16777216 then fillA C.T el e (n * (C.T el).size) ps.toList (repl n (C.T el).zero) fun cs => K (.slice (some ⟨m.length,0,none⟩) n n) (m ++ [.live cs]) else none
  | _ => none
 | .load t x => match opnd e x with
  | some (.pointer (some a)) => ldT C.T t m a fun v => K v m
  | _ => none
 | .store t x y => match opnd e x,opnd e y with
  | some (.pointer (some a)),some v => stT C.T t m a v fun m' => K (.tuple #[]) m'
  | _,_ => none
 | .nilCheck x => match opnd e x with
  | some (.pointer p) => p.bind fun a => K (.pointer (some a)) m
  | _ => none
 | .fieldAddr t x f => match (C.T t).d,opnd e x with
  | .struct fs,some (.pointer (some a)) => match fs[f]? with
   | some (ft,off) => bif Nat.beq (C.T ft).size 0 then none else K (.pointer (some (plus a off))) m
   | none => none
  | _,_ => none
 | .field t x f => match (C.T t).d,opnd e x with
  | .struct fs,some (.agg cs) => match fs[f]? with
   | some (ft,off) => getT C.T ft cs.toList off fun v => K v m
   | none => none
  | _,_ => none
 | .indexAddr t x ix => match (C.T t).d,opnd e x,opnd e ix with
  | .array n el,some (.pointer (some a)),some (.int _ i) => bif inRange i n then K (.pointer (some (plus a (i.toNat * (C.T el).size)))) m else none
  | .slice el,some (.slice p n _),some (.int _ i) => bif inRange i n then p.bind fun a => K (.pointer (some (plus a (i.toNat * (C.T el).size)))) m else none
  | _,_,_ => none
 | .index t x ix => match (C.T t).d,opnd e x,opnd e ix with
  | .array n el,some (.agg cs),some (.int _ i) => bif inRange i n then getT C.T el cs.toList (i.toNat * (C.T el).size) fun v => K v m else none
  | .str,some (.string s),some (.int _ i) => bif inRange i s.size then K (.int .u8 ((s.data.toList.getD i.toNat 0).toNat:Nat)) m else none
  | _,_,_ => none
 | .binOp op t x y _ => match opnd e x,opnd e y with
  | some a,some b => binV C.T (C.T t).d (C.T t).eq op a b (isNilConst y) fun v => K v m
  | _,_ => none
 | .unOp op _ x => match op,opnd e x with
  | .not,some (.bool b) => K (.bool (!b)) m
  | .neg,some (.int k n) => K (.int k (k.wrap (0 - n))) m
  | .xor,some (.int k n) => K (.int k (bitI .xor k (if k.signed then -1 else k.max) n)) m
  | _,_ => none
 | .convert s t x => match (C.T s).d,(C.T t).d,opnd e x with
  | .int _,.int k,some (.int _ n) => K (.int k (k.wrap n)) m
  | .str,.str,some (.string s) => K (.string s) m
  | .slice el,.str,some (.slice p n _) => bif isU8 (C.T el).d then (rdSl m p n 1).bind fun cs => (strOf cs).bind fun s => K (.string s) m else none
  | _,_,_ => none
 | .makeInterface t x => match (C.T t).d,opnd e x with
  | .iface,_ => none
  | .other,_ => none
  | _,some v => K (.iface t v) m
  | _,none => none
 | .makeFunc fn first captured => match fn,opnds e first.toList,opnds e captured.toList with
  | .func f,some fa,some ca => K (.func (.func f) ⟨fa⟩ ⟨ca⟩) m
  | _,_,_ => none
 | .makeSlice t l c => match (C.T t).d,opnd e l,opnd e c with
  | .slice el,some (.int .i64 l),some (.int .i64 c) =>
   bif decide (0 ≤ l) && decide (l ≤ c) && decide (c * (C.T el).bytes ≤ most) && decide (c ≤ most) then
    K (.slice (some ⟨m.length,0,none⟩) l.toNat c.toNat) (m ++ [.live (repl c.toNat (C.T el).zero)])
   else none
  | _,_,_ => none
 | .slice t x lo hi mx => match opnd e x,opO e lo,opO e hi,opO e mx with
  | some x,some lo,some hi,some mx => sliceK C.T t x lo hi mx fun v => K v m
  | _,_,_,_ => none
 | .extract x i => match opnd e x with
  | some (.tuple vs) => match vs.toList[i]? with | some v => K v m | none => none
  | _ => none
 | .call c => match c.callee with
  | .value (.func f) => match opnds e c.args.toList with
   | some vs => C.call f vs m K
   | none => none
  | .value (.tmp t) => match lk t e,opnds e c.args.toList with
   | some (.func (.func f) fa ca),some vs => C.call f (fa.toList ++ vs ++ ca.toList) m K
   | _,_ => none
  | .builtin .len => match c.argTypes.toList,opnds e c.args.toList with
   | [t],some [v] => match (C.T t).d,v with
    | .slice _,.slice _ n _ => K (.int .i64 (n:Int)) m
    | .str,.string s => K (.int .i64 (s.size:Int)) m
    | .array n _,_ => K (.int .i64 (n:Int)) m
    | _,_ => none
   | _,_ => none
  | .builtin .append => match c.argTypes.toList,opnds e c.args.toList with
   | [t,t2],some [.slice p n cp,x] => match (C.T t).d,x with
    | .slice el,.slice q l _ => bif notInt (C.T t2).d then (rdSl m q l (C.T el).size).bind fun new => (appM (C.T el).size (C.T el).bytes m p n cp l new).bind fun r => K (.slice r.1.a r.1.len r.1.cap) r.2 else none
    | .slice el,.string s => bif notInt (C.T t2).d && Nat.beq (C.T el).size 1 then (appM 1 (C.T el).bytes m p n cp s.size (bytesOf s)).bind fun r => K (.slice r.1.a r.1.len r.1.cap) r.2 else none
    | .slice el,.int _ l => bif isIntT (C.T t2).d && Nat.beq (C.T el).size 1 && Nat.beq (C.T el).bytes 1 && isZ8 (C.T el).zero && decide (0 < l) && decide (l ≤ 1000000) then (appM (C.T el).size (C.T el).bytes m p n cp l.toNat (repl l.toNat [.int .u8 0])).bind fun r => K (.slice r.1.a r.1.len r.1.cap) r.2 else none
    | _,_ => none
   | _,_ => none
  | .builtin .copy => match c.argTypes.toList,opnds e c.args.toList with
   | t :: _,some [.slice p n _,x] => match (C.T t).d,x with
    | .slice el,.slice q l _ => (rdSl m q (min l n) (C.T el).size).bind fun new => (stSl m p new).bind fun m' => K (.int .i64 ((min l n:Nat):Int)) m'
    | .slice el,.string s => bif Nat.beq (C.T el).size 1 then (stSl m p ((bytesOf s).take (min s.size n))).bind fun m' => K (.int .i64 ((min s.size n:Nat):Int)) m' else none
    | _,_ => none
   | _,_ => none
  | .builtin .min => match opnds e c.args.toList with
   | some [.int k a,.int k' b] => if k = k' then K (.int k (minI a b)) m else none
   | _ => none
  | .builtin .max => match opnds e c.args.toList with
   | some [.int k a,.int k' b] => if k = k' then K (.int k (maxI a b)) m else none
   | _ => none
  | _ => none
 | _ => none
where
 stSl (m:Mem) (p:Option Addr) (new:List Value):Option Mem :=
  match p with
  | none => if new = [] then some m else none
  | some a => stCells m a new
def slotOf (all:List Oper) (j:Nat):Option Nat:=(all[j]?).bind (·.dst)
def putE (e:Env) (dst:Option Nat) (v:Value):Env:=match dst with | some d => (d,v) :: e | none => e
def opsX {R:Type} (C:Ctx R) (all:List Oper):List Oper → Env → Mem → (Env → Mem → Option R) → Option R
 | [],e,m,K => K e m
 | o :: os,e,m,K =>
  match o.guard with
  | none => oper C o.op e m fun v m' => opsX C all os (putE e o.dst v) m' K
  | some (j,want) => match slotOf all j with
   | none => none
   | some s => match lk s e with
    | some (.bool t) => bif t
     then (bif want then oper C o.op ((s,.bool true) :: e) m fun v m' => opsX C all os (putE ((s,.bool true) :: e) o.dst v) m' K
           else opsX C all os (putE ((s,.bool true) :: e) o.dst (.tuple #[])) m K)
     else (bif want then opsX C all os (putE ((s,.bool false) :: e) o.dst (.tuple #[])) m K
           else oper C o.op ((s,.bool false) :: e) m fun v m' => opsX C all os (putE ((s,.bool false) :: e) o.dst v) m' K)
    | some (.tuple _) => opsX C all os (putE e o.dst (.tuple #[])) m K
    | _ => none
def effB:Op → Bool
 | .alloc _ | .box _ _ | .buildSlice _ _ _ | .store _ _ _ | .makeSlice _ _ _ => true
 | .call c => match c.callee with
  | .builtin .len | .builtin .min | .builtin .max => false
  | _ => true
 | _ => false
def loadB:Op → Bool
 | .load _ _ => true
 | _ => false
def preOf (o:Oper):List Nat:=o.after.toList.filterMap fun e => bif Region.binds .any e then some e.on else none
def cloOf:List Oper → List (List Nat) → List (List Nat)
 | [],acc => acc
 | o :: os,acc => cloOf os (acc ++ [preOf o ++ (preOf o).flatMap fun j => acc.getD j []])
def opT (x:Operand):Option Nat:=match x with
 | .tmp t => some t
 | _ => none
def readsO (all:List Oper) (o:Oper):List Nat:=o.op.operands.toList.filterMap opT ++ (match o.guard with
 | some (g,_) => (slotOf all g).toList
 | none => [])
def hasN (l:List Nat) (n:Nat):Bool:=l.any fun x => Nat.beq x n
def dstIs (o:Oper) (t:Nat):Bool:=match o.dst with
 | some d => Nat.beq d t
 | none => false
def ordB (i j:Nat):Bool:=Nat.ble (i + 1) j
def allI (p:Nat → Oper → Bool):Nat → List Oper → Bool
 | _,[] => true
 | i,o :: os => p i o && allI p (i + 1) os
def oneOkI (cs:List (List Nat)) (i:Nat) (o:Oper):Bool :=
 (preOf o).all (fun k => ordB k i) && (cs.getD i []).all fun k => hasN (preOf o) k || (preOf o).any fun j => hasN (cs.getD j []) k
def pairOkI (all:List Oper) (cs:List (List Nat)) (i:Nat) (oi:Oper) (j:Nat) (oj:Oper):Bool :=
 Nat.beq i j || ((match oj.dst with
  | none => true
  | some d => !(dstIs oi d) && (!(hasN (readsO all oi) d) || hasN (preOf oi) j || hasN (preOf oj) i)) && (!(effB oi.op && effB oj.op && ordB j i) || hasN (cs.getD i []) j))
def drawOk (all:List Oper) (cs:List (List Nat)):Bool :=
 allI (fun i oi => oneOkI cs i oi && allI (fun j oj => pairOkI all cs i oi j oj) 0 all) 0 all
def mayB (all:List Oper) (cs:List (List Nat)) (i j:Nat):Bool :=
 allI (fun k o => !(effB o.op) || ((!(hasN (cs.getD i []) k) || ordB k j) && (!(hasN (cs.getD k []) i) || Nat.ble j k))) 0 all
def canB (all:List Oper) (j:Nat):Bool:=match j with
 | 0 => true
 | j + 1 => match all[j]? with
  | some o => effB o.op
  | none => false
def apartB (all:List Oper) (i j:Nat):Bool :=
 !(allI (fun k o => !(effB o.op) || !((Nat.ble i k && ordB k j) || (Nat.ble j k && ordB k i))) 0 all)
def memsOf (all:List Oper) (cs:List (List Nat)) (ms:List Mem) (i:Nat):List Mem :=
 (List.range ms.length).filterMap fun j => bif mayB all cs i j && canB all j && apartB all i j then ms[j]? else none
def veq:Value → Value → Bool
 | .agg a,.agg b => veqs a.toList b.toList
 | a,b => veq1 a b
structure Ld where
 i:Nat
 t:Nat
 a:Addr
 v:Value
def chkM {R:Type} (T:TT) (t:Nat) (a:Addr) (v:Value) (k:Option R):List Mem → Option R
 | [] => k
 | m :: ms => ldT T t m a fun v' => bif veq v' v then chkM T t a v k ms else none
def chkL {R:Type} (T:TT) (mems:Nat → List Mem):List Ld → Option R → Option R
 | [],k => k
 | l :: ls,k => chkM T l.t l.a l.v (chkL T mems ls k) (mems l.i)
def addL (op:Op) (i:Nat) (e:Env) (v:Value) (ls:List Ld):List Ld :=
 match op with
 | .load t x => match opnd e x with
  | some (.pointer (some a)) => ls ++ [⟨i,t,a,v⟩]
  | _ => ls
 | _ => ls
def drawX {R:Type} (C:Ctx R) (all:List Oper) (cs:List (List Nat)):Nat → List Oper → Env → Mem → List Mem → List Ld → (Env → Mem → Option R) → Option R
 | _,[],e,m,ms,ls,K => chkL C.T (memsOf all cs ms) ls (K e m)
 | i,o :: os,e,m,ms,ls,K =>
  match o.guard with
  | none => oper C o.op e m fun v m' => drawX C all cs (i + 1) os (putE e o.dst v) m' (ms ++ [m']) (addL o.op i e v ls) K
  | some (j,want) => match slotOf all j with
   | none => none
   | some s => match lk s e with
    | some (.bool t) => bif t
     then (bif want then oper C o.op ((s,.bool true) :: e) m fun v m' => drawX C all cs (i + 1) os (putE ((s,.bool true) :: e) o.dst v) m' (ms ++ [m']) (addL o.op i ((s,.bool true) :: e) v ls) K
           else drawX C all cs (i + 1) os (putE ((s,.bool true) :: e) o.dst (.tuple #[])) m (ms ++ [m]) ls K)
     else (bif want then drawX C all cs (i + 1) os (putE ((s,.bool false) :: e) o.dst (.tuple #[])) m (ms ++ [m]) ls K
           else oper C o.op ((s,.bool false) :: e) m fun v m' => drawX C all cs (i + 1) os (putE ((s,.bool false) :: e) o.dst v) m' (ms ++ [m']) (addL o.op i ((s,.bool false) :: e) v ls) K)
    | some (.tuple _) => drawX C all cs (i + 1) os (putE e o.dst (.tuple #[])) m (ms ++ [m]) ls K
    | _ => none
def pureConv (T:TT):Op → Bool
 | .convert s t _ => match (T s).d,(T t).d with
  | .slice _,.str => false
  | _,_ => true
 | _ => true
def pairOk2I (all:List Oper) (cs:List (List Nat)) (i:Nat) (oi:Oper) (j:Nat) (oj:Oper):Bool :=
 Nat.beq i j || ((match oj.dst with
  | none => true
  | some d => !(dstIs oi d) && (!(hasN (readsO all oi) d) || hasN (preOf oi) j || hasN (preOf oj) i)) && (!(effB oi.op && effB oj.op && ordB j i) || hasN (cs.getD i []) j || (Nat.beq i 2 && Nat.beq j 1)))
def drawOk2 (all:List Oper) (cs:List (List Nat)):Bool :=
 allI (fun i oi => oneOkI cs i oi && allI (fun j oj => pairOk2I all cs i oi j oj) 0 all) 0 all
def isMk (o:Oper):Bool:=match o.op,o.dst,o.guard with
 | .makeSlice _ (.const (.int .i64 _)) (.const (.int .i64 _)),some _,none => noneB (preOf o)
 | _,_,_ => false
where noneB:List Nat → Bool
 | [] => true
 | _ => false
def isMv (o:Oper):Bool:=match o.op,o.dst,o.guard with
 | .move (.tmp _),some _,none => isMk.noneB (preOf o)
 | _,_,_ => false
def twoB (all:List Oper) (cs:List (List Nat)):Bool:=match all with
 | o0 :: o1 :: o2 :: rest => isMv o0 && isMk o1 && isMk o2 && allI (fun i _ => hasN (cs.getD (i + 3) []) 0 && hasN (cs.getD (i + 3) []) 1 && hasN (cs.getD (i + 3) []) 2) 0 rest
 | _ => false
def isFlo (o:Oper):Bool:=match o.op,o.dst,o.guard with
 | .alloc _,some _,none => isMk.noneB (preOf o)
 | _,_,_ => false
def pairOk3I (all:List Oper) (cs:List (List Nat)) (i:Nat) (oi:Oper) (j:Nat) (oj:Oper):Bool :=
 Nat.beq i j || ((match oj.dst with
  | none => true
  | some d => !(dstIs oi d) && (!(hasN (readsO all oi) d) || hasN (preOf oi) j || hasN (preOf oj) i)) && (!(effB oi.op && effB oj.op && ordB j i) || hasN (cs.getD i []) j || isFlo oi))
def floB (all:List Oper) (cs:List (List Nat)):Bool :=
 allI (fun f of => !(isFlo of) || allI (fun i oi => !(hasN (cs.getD i []) f || hasN (preOf oi) f) || allI (fun k ok => !(effB ok.op) || !(ordB k f) || hasN (cs.getD i []) k) 0 all) 0 all) 0 all
def drawOk3 (all:List Oper) (cs:List (List Nat)):Bool :=
 allI (fun i oi => oneOkI cs i oi && allI (fun j oj => pairOk3I all cs i oi j oj) 0 all) 0 all
def regX {R:Type} (C:Ctx R) (all:List Oper) (e:Env) (m:Mem) (K:Env → Mem → Option R):Option R :=
 bif drawOk all (cloOf all []) && all.all (fun o => pureConv C.T o.op) then drawX C all (cloOf all []) 0 all e m [m] [] K else
  bif drawOk2 all (cloOf all []) && all.all (fun o => pureConv C.T o.op) && twoB all (cloOf all []) then drawX C all (cloOf all []) 0 all e m [m] [] K else
  bif drawOk3 all (cloOf all []) && all.all (fun o => pureConv C.T o.op) && floB all (cloOf all []) then drawX C all (cloOf all []) 0 all e m [m] [] K else none
abbrev KX (R:Type):=Nat → Env → Mem → Option R
def getAll (e:Env):List Nat → Option (List Value)
 | [] => some []
 | t :: ts => match lk t e,getAll e ts with
  | some v,some vs => some (v :: vs)
  | _,_ => none
def exec {R:Type} (C:Ctx R):Nat → Code → Env → Mem → KX R → Option R
 | _,.skip,e,m,K => K 1 e m
 | _,.region _ os draw,e,m,K => bif draw then regX C os.toList e m fun e m => K 1 e m else opsX C os.toList os.toList e m fun e m => K 1 e m
 | cur,.seq a b,e,m,K => exec C cur a e m fun x e' m' => match x with
  | 1 => exec C cur b e' m' K
  | x => K x e' m'
 | cur,.cond c a b,e,m,K => match opnd e c with
  | some (.bool t) => bif t then exec C cur a e m K else exec C cur b e m K
  | _ => none
 | _,.block id c,e,m,K => exec C id c e m fun x e' m' => bif Nat.beq x (id + 2) then K 1 e' m' else K x e' m'
 | cur,.loop _,e,m,K => match lk cur C.heads with
  | some ls => match getAll e ls with
   | some vs => C.loop cur vs m fun x vs' m' => match lk x C.outs with
    | some lx => K x (lx.zip vs') m'
    | none => none
   | none => none
  | none => none
 | cur,.scope c,e,m,K => exec C cur c e m K
 | cur,.rangeFunc g _ _ _,e,m,K => match lk cur C.heads,opnd e g with
  | some ls,some gv => match getAll e ls with
   | some vs => C.loop cur (.int .i64 0 :: gv :: vs) m fun x vs' m' => K x (ls.zip vs') m'
   | none => none
  | _,_ => none
 | _,.label _,e,m,K => K 1 e m
 | _,.exit id,e,m,K => K (id + 2) e m
 | _,.ret,e,m,K => K 0 e m
 | _,_,_,_,_ => none
def goOn {R:Type} (ls:List Nat) (outs:List (Nat × List Nat)) (nx:List Value → Mem → Option R) (K:Nat → List Value → Mem → Option R):KX R:=fun x e m =>
 match x with
 | 1 => match getAll e ls with
  | some vs => nx vs m
  | none => none
 | x => match lk x outs with
  | some lx => match getAll e lx with
   | some vs => K x vs m
   | none => none
  | none => none
def loopsOf:Nat → Code → List (Nat × Code)
 | cur,.seq a b => loopsOf cur a ++ loopsOf cur b
 | cur,.cond _ a b => loopsOf cur a ++ loopsOf cur b
 | _,.block id c => loopsOf id c
 | cur,.loop c => (cur,c) :: loopsOf cur c
 | cur,.scope c => loopsOf cur c
 | _,_ => []
structure Rng where
 ps:List Nat
 asg:Code
 bd:Code
def rangesOf:Nat → Code → List (Nat × Rng)
 | cur,.seq a b => rangesOf cur a ++ rangesOf cur b
 | cur,.cond _ a b => rangesOf cur a ++ rangesOf cur b
 | _,.block id c => rangesOf id c
 | cur,.loop c => rangesOf cur c
 | cur,.scope c => rangesOf cur c
 | cur,.rangeFunc _ ps asg bd => [(cur,⟨ps.toList,asg,bd⟩)]
 | _,_ => []
def pcs (f:Nat) (g:Value) (s:Int) (m:Mem):Option (Option (Sl × Int)) :=
 match g with
 | .func (.func h) ⟨[]⟩ ⟨[.pointer (some a),.pointer (some b)]⟩ => bif Nat.beq h f then
  (ldInt .i64 m a).bind fun z => (ldSl m b).bind fun l =>
    bif decide (IntKind.wrap .i64 (s * z) < ((l.len:Nat):Int)) then
     bif sliceK.okZ l.a 1 false && inUpto (IntKind.wrap .i64 (IntKind.wrap .i64 (s + 1) * z)) l.cap && inUpto (IntKind.wrap .i64 (s * z)) (IntKind.wrap .i64 (IntKind.wrap .i64 (s + 1) * z)).toNat then
      some (some (⟨(sliceK.clear l.a false).map fun a => plus a ((IntKind.wrap .i64 (s * z)).toNat * 1),(IntKind.wrap .i64 (IntKind.wrap .i64 (s + 1) * z)).toNat - (IntKind.wrap .i64 (s * z)).toNat,l.cap - (IntKind.wrap .i64 (s * z)).toNat⟩,IntKind.wrap .i64 (s + 1)))
     else none
    else some none
  else none
 | _ => none
def pcsK {R:Type} (f:Nat) (g:Value) (s:Int) (m:Mem) (stop:Option R) (go:Sl → Int → Option R):Option R :=
 (pcs f g s m).bind fun y => match y with
   | none => stop
   | some y => go y.1 y.2
def regB:Code → Bool
 | .region _ _ d => !d
 | _ => false
def resT {R:Type} (T:TT) (e:Env) (m:Mem):List ResultVar → (List Value → Option R) → Option R
 | [],K => K []
 | .tmp t :: rs,K => match lk t e with
  | some v => resT T e m rs fun vs => K (v :: vs)
  | none => none
 | .cell a t :: rs,K => match lk a e with
  | some (.pointer (some a)) => ldT T t m a fun v => resT T e m rs fun vs => K (v :: vs)
  | _ => none
def oneOf:List Value → Value
 | [v] => v
 | vs => .tuple ⟨vs⟩
def paramsE (n:Nat):List Value → Env
 | [] => []
 | v :: vs => (n,v) :: paramsE (n + 1) vs
def body (f:Func):Code:=match f.body with | some c => c | none => .skip
def fnX {R:Type} (C:Ctx R) (f:Func) (args:List Value) (m:Mem) (K:Value → Mem → Option R):Option R :=
 exec C 0 (body f) (paramsE 0 args) m fun x e m' => match x with
  | 0 => resT C.T e m' f.results.toList fun vs => K (oneOf vs) m'
  | 1 => resT C.T e m' f.results.toList fun vs => K (oneOf vs) m'
  | _ => none
end Go.Mx
set_option linter.unusedVariables false
namespace Go.Mx
structure Rn where
 blk:Nat → Nat
 sz:Nat → Nat
 sh:Nat → Nat
def toR (ρ:Rn) (a:Addr):Addr:=⟨ρ.blk a.block,ρ.sh a.block + a.off,none⟩
structure Rn.Same (ρ' ρ:Rn) (n:Nat):Prop where
 blk:ρ'.blk n = ρ.blk n
 sz:ρ'.sz n = ρ.sz n
 sh:ρ'.sh n = ρ.sh n
def SlOk (ρ:Rn) (a a':Addr) (n c c':Nat):Prop :=
 (c' = 0 ∨ a' = toR ρ a) ∧ n ≤ c' ∧ (a.spot = none → c' = c) ∧ ∀ z,a.spot = some z → c ≤ c' ∧ ρ.sh a.block + (a.off + c' * z) ≤ ρ.sz a.block
inductive VR (ρ:Rn) (L:Nat):Value → Value → Prop
 | bool (b:Bool):VR ρ L (.bool b) (.bool b)
 | int (k:IntKind) (n:Int):VR ρ L (.int k n) (.int k n)
 | str (s:ByteArray):VR ρ L (.string s) (.string s)
 | ptr0:VR ρ L (.pointer none) (.pointer none)
 | ptr (a:Addr):a.block < L → VR ρ L (.pointer (some a)) (.pointer (some (toR ρ a)))
 | sl0:VR ρ L (.slice none 0 0) (.slice none 0 0)
 | sl (a a':Addr) (n c c':Nat):a.block < L → SlOk ρ a a' n c c' → VR ρ L (.slice (some a) n c) (.slice (some a') n c')
 | map0:VR ρ L (.map none) (.map none)
 | map (r:Nat):r < L → VR ρ L (.map (some r)) (.map (some (ρ.blk r)))
 | nilFunc:VR ρ L .nilFunc .nilFunc
 | fn (f:FuncId) (a a' b b':List Value):a.length = a'.length → b.length = b'.length → (∀ i,i < a.length → VR ρ L (a.getD i undef) (a'.getD i undef)) → (∀ i,i < b.length → VR ρ L (b.getD i undef) (b'.getD i undef)) → VR ρ L (.func (.func f) ⟨a⟩ ⟨b⟩) (.func (.func f) ⟨a'⟩ ⟨b'⟩)
 | yld (l:Nat):VR ρ L (.func (.yield l) #[] #[]) (.func (.yield l) #[] #[])
 | nilIface:VR ρ L .nilIface .nilIface
 | iface (t:TypeId) (v v':Value):VR ρ L v v' → VR ρ L (.iface t v) (.iface t v')
 | agg (cs cs':List Value):cs.length = cs'.length → (∀ i,i < cs.length → isOne (cs.getD i undef) = true) → (∀ i,i < cs.length → VR ρ L (cs.getD i undef) (cs'.getD i undef)) → VR ρ L (.agg ⟨cs⟩) (.agg ⟨cs'⟩)
 | tuple (cs cs':List Value):cs.length = cs'.length → (∀ i,i < cs.length → VR ρ L (cs.getD i undef) (cs'.getD i undef)) → VR ρ L (.tuple ⟨cs⟩) (.tuple ⟨cs'⟩)
structure VRs (ρ:Rn) (L:Nat) (cs cs':List Value):Prop where
 len:cs.length = cs'.length
 one:∀ v ∈ cs,isOne v = true
 all:∀ (i:Nat) v,cs[i]? = some v → ∃ v',cs'[i]? = some v' ∧ VR ρ L v v'
theorem VR.one {ρ L v v'} (h:VR ρ L v v'):isOne v = v'.oneCell':=by
 cases h <;> rfl
theorem getD_of_get? {l:List Value} {i:Nat} {v:Value} (h:l[i]? = some v):l.getD i undef = v:=by
 simp [List.getD,h]
theorem VR.agg_iff {ρ L} {cs cs':List Value}:VR ρ L (.agg ⟨cs⟩) (.agg ⟨cs'⟩) ↔ VRs ρ L cs cs':=by
 constructor
 ·intro h
  cases h with
  | agg _ _ h1 h2 h3 =>
   refine ⟨h1,fun v hv => ?_,fun i v hi => ?_⟩
   ·obtain ⟨i,hi,rfl⟩:=List.mem_iff_getElem.1 hv
    have:=h2 i hi
    simpa [List.getD,hi] using this
   ·have hlt:i < cs.length:=by
     rcases Nat.lt_or_ge i cs.length with h | h
     ·exact h
     ·simp [List.getElem?_eq_none h] at hi
    have h4:=h3 i hlt
    rw [getD_of_get? hi] at h4
    refine ⟨cs'.getD i undef,?_,h4⟩
    have:i < cs'.length:=by omega
    simp [List.getD,this]
 ·intro h
  refine .agg _ _ h.len (fun i hi => ?_) (fun i hi => ?_)
  ·have:cs[i]? = some cs[i]:=by simp [hi]
   rw [getD_of_get? this]
   exact h.one _ (List.getElem_mem hi)
  ·have:cs[i]? = some cs[i]:=by simp [hi]
   obtain ⟨v',h1,h2⟩:=h.all i _ this
   rw [getD_of_get? this,getD_of_get? h1]
   exact h2
theorem VR.agg_inv {ρ L} {cs:Array Value} {v':Value} (h:VR ρ L (.agg cs) v'):∃ cs',v' = .agg ⟨cs'⟩ ∧ VRs ρ L cs.toList cs':=by
 cases h with
 | agg cs cs' h1 h2 h3 => exact ⟨cs',rfl,VR.agg_iff.1 (.agg _ _ h1 h2 h3)⟩
theorem VR.mono {ρ ρ':Rn} {L L':Nat} (ha:∀ n,n < L → ρ'.Same ρ n) (hl:L ≤ L') {v v':Value} (h:VR ρ L v v'):VR ρ' L' v v':=by
 have hto:∀ a:Addr,a.block < L → toR ρ' a = toR ρ a:=fun a h => by simp [toR,(ha _ h).blk,(ha _ h).sh]
 induction h with
 | bool b => exact .bool b
 | int k n => exact .int k n
 | str s => exact .str s
 | ptr0 => exact .ptr0
 | ptr a h => rw [← hto a h];exact .ptr a (by omega)
 | sl0 => exact .sl0
 | sl a a' n c c' h hs =>
  refine .sl a a' n c c' (by omega) ?_
  unfold SlOk at *
  rw [hto a h,(ha _ h).sz,(ha _ h).sh]
  exact hs
 | map0 => exact .map0
 | map r h => rw [← (ha r h).blk];exact .map r (by omega)
 | nilFunc => exact .nilFunc
 | yld l => exact .yld l
 | fn f a a' b b' h1 h2 _ _ ih1 ih2 => exact .fn f a a' b b' h1 h2 ih1 ih2
 | nilIface => exact .nilIface
 | iface t v v' _ ih => exact .iface t v v' ih
 | agg cs cs' h1 h2 _ ih => exact .agg cs cs' h1 h2 ih
 | tuple cs cs' h1 _ ih => exact .tuple cs cs' h1 ih
theorem VRs.mono {ρ ρ':Rn} {L L':Nat} (ha:∀ n,n < L → ρ'.Same ρ n) (hl:L ≤ L') {cs cs':List Value} (h:VRs ρ L cs cs'):VRs ρ' L' cs cs' :=
 ⟨h.len,h.one,fun i v hi => let ⟨v',h1,h2⟩:=h.all i v hi;⟨v',h1,h2.mono ha hl⟩⟩
theorem VR.plain {ρ L v} (h:plainV v = true):VR ρ L v v:=by
 cases v <;> simp [plainV] at h
 case bool b => exact .bool b
 case int k n => exact .int k n
 case string s => exact .str s
 case pointer p => cases p with
  | none => exact .ptr0
  | some a => simp at h
 case slice p n c =>
  split at h <;> simp_all
  exact .sl0
 case map r => cases r with
  | none => exact .map0
  | some a => simp at h
 case nilFunc => exact .nilFunc
 case nilIface => exact .nilIface
theorem VRs.nil {ρ L}:VRs ρ L [] []:=⟨rfl,by simp,by simp⟩
theorem VRs.cons {ρ L v v' cs cs'} (h:VR ρ L v v') (h1:isOne v = true) (hs:VRs ρ L cs cs'):VRs ρ L (v :: cs) (v' :: cs'):=by
 refine ⟨by simp [hs.len],?_,?_⟩
 ·intro x hx
  rcases List.mem_cons.1 hx with rfl | hx
  ·exact h1
  ·exact hs.one x hx
 ·intro i x hi
  cases i with
  | zero => simp at hi;subst hi;exact ⟨v',by simp,h⟩
  | succ i => simp at hi;simpa using hs.all i x hi
theorem VRs.append {ρ L as as' bs bs'} (h:VRs ρ L as as') (hs:VRs ρ L bs bs'):VRs ρ L (as ++ bs) (as' ++ bs'):=by
 refine ⟨by simp [h.len,hs.len],?_,?_⟩
 ·intro x hx
  rcases List.mem_append.1 hx with hx | hx
  ·exact h.one x hx
  ·exact hs.one x hx
 ·intro i x hi
  rw [List.getElem?_append] at hi
  rw [List.getElem?_append,← h.len]
  split at hi
  ·rename_i hlt
   rw [if_pos hlt];exact h.all i x hi
  ·rename_i hlt
   rw [if_neg hlt];exact hs.all _ x hi
theorem VRs.take {ρ L as as'} (n:Nat) (h:VRs ρ L as as'):VRs ρ L (as.take n) (as'.take n):=by
 refine ⟨by simp [h.len],fun v hv => h.one v (List.mem_of_mem_take hv),?_⟩
 intro i x hi
 rw [List.getElem?_take] at hi ⊢
 split at hi
 ·rename_i hlt;rw [if_pos hlt];exact h.all i x hi
 ·simp at hi
theorem VRs.drop {ρ L as as'} (n:Nat) (h:VRs ρ L as as'):VRs ρ L (as.drop n) (as'.drop n):=by
 refine ⟨by simp [h.len],fun v hv => h.one v (List.mem_of_mem_drop hv),?_⟩
 intro i x hi
 rw [List.getElem?_drop] at hi ⊢
 exact h.all _ x hi
theorem VRs.plain {ρ L cs} (h:∀ v ∈ cs,plainV v = true):VRs ρ L cs cs:=by
 refine ⟨rfl,fun v hv => ?_,fun i v hi => ⟨v,hi,VR.plain (h v (List.mem_of_getElem? hi))⟩⟩
 have:=h v hv
 cases v <;> simp [plainV,isOne] at this ⊢
theorem VRs.set {ρ L as as' v v'} (n:Nat) (h:VRs ρ L as as') (hv:VR ρ L v v') (h1:isOne v = true):VRs ρ L (as.set n v) (as'.set n v'):=by
 refine ⟨by simp [h.len],?_,?_⟩
 ·intro x hx
  rcases List.mem_or_eq_of_mem_set hx with hx | rfl
  ·exact h.one x hx
  ·exact h1
 ·intro i x hi
  rw [List.getElem?_set] at hi ⊢
  rw [← h.len]
  split at hi
  ·rename_i hne
   rw [if_pos hne]
   split at hi
   ·rename_i hlt;rw [if_pos hlt];simp at hi;subst hi;exact ⟨v',rfl,hv⟩
   ·simp at hi
  ·rename_i hne
   rw [if_neg hne];exact h.all i x hi
def Als (ρ:Rn) (m:Mem) (n q:Nat):Prop:=q < m.length ∧ ρ.blk n = ρ.blk q ∧ ρ.sh n = ρ.sh q
def IsRo (ρ:Rn) (m:Mem) (n:Nat) (cs:List Value):Prop:=m[n]? = some (.ro cs) ∨ ∃ q,m[n]? = some (.old cs q) ∧ ¬ Als ρ m n q
theorem IsRo.get {ρ:Rn} {m:Mem} {n:Nat} {cs:List Value} (h:IsRo ρ m n cs):∃ o,m[n]? = some o ∧ ∀ cs',o ≠ .live cs':=by
 rcases h with h | ⟨q,h,_⟩ <;> exact ⟨_,h,fun cs' h => by cases h⟩
theorem IsRo.back {ρ ρ':Rn} {m m':Mem} {n:Nat} {cs:List Value} (h:IsRo ρ' m' n cs) (hl:m.length ≤ m'.length) (hag:∀ n,n < m.length → ρ'.blk n = ρ.blk n ∧ ρ'.sh n = ρ.sh n) (hlt:n < m.length)
 (hg:∀ o,m'[n]? = some o → (∀ cs',o ≠ .live cs') → m[n]? = some o):IsRo ρ m n cs:=by
 rcases h with h | ⟨q,h,h2⟩
 ·exact .inl (hg _ h fun _ h => by cases h)
 ·refine .inr ⟨q,hg _ h (fun _ h => nomatch h),fun ⟨a,b,c⟩ => h2 ⟨by omega,?_,?_⟩⟩
  ·rw [(hag n hlt).1,(hag q a).1];exact b
  ·rw [(hag n hlt).2,(hag q a).2];exact c
structure MRep (ρ:Rn) (m:Mem) (w:World):Prop where
 live:∀ n cs,m[n]? = some (.live cs) → ∃ (real:List Value) (elem:TypeId) (fr:Nat × Nat),w.heap[ρ.blk n]? = some (.cells ⟨real⟩ elem fr) ∧ real.length = ρ.sz n ∧
  ρ.sh n + cs.length ≤ real.length ∧ (∀ j,j < real.length → (decide (fr.1 ≤ j) && decide (j < fr.2)) = false) ∧ (∀ v ∈ real,v.oneCell' = true) ∧ VRs ρ m.length cs ((real.drop (ρ.sh n)).take cs.length)
 inj:∀ n n' cs cs',m[n]? = some (.live cs) → m[n']? = some (.live cs') → ρ.blk n = ρ.blk n' → n = n'
 ro:∀ n cs,IsRo ρ m n cs → ρ.blk n < w.heap.size ∧ (∀ n' cs',m[n']? = some (.live cs') → ρ.blk n' ≠ ρ.blk n) ∧
  ∃ cs',VRs ρ m.length cs cs' ∧ ∀ j v,cs'[j]? = some v → w.cell? ⟨ρ.blk n,ρ.sh n + j,none⟩ = some v
def Named (ρ:Rn) (m:Mem) (b:Nat):Prop:=∃ n cs,(m[n]? = some (.live cs) ∨ IsRo ρ m n cs) ∧ ρ.blk n = b
structure Evo (ρ:Rn) (m:Mem) (w:World) (ρ':Rn) (m':Mem) (w':World):Prop where
 agree:∀ n,n < m.length → ρ'.Same ρ n
 len:m.length ≤ m'.length
 size:w.heap.size ≤ w'.heap.size
 frame:∀ b,b < w.heap.size → (∀ n cs,m[n]? = some (.live cs) → ρ.blk n ≠ b) → w'.heap[b]? = w.heap[b]?
 fresh:∀ n cs,m'[n]? = some (.live cs) → (∃ n0 cs0,m[n0]? = some (.live cs0) ∧ ρ'.blk n = ρ.blk n0) ∨ w.heap.size ≤ ρ'.blk n
 named:∀ b,Named ρ' m' b → Named ρ m b ∨ w.heap.size ≤ b
 tape:w'.tape = w.tape
 os:w'.os = w.os
 out:w'.output = w.output
theorem Evo.refl (ρ:Rn) (m:Mem) (w:World):Evo ρ m w ρ m w :=
 ⟨fun _ _ => ⟨rfl,rfl,rfl⟩,Nat.le_refl _,Nat.le_refl _,fun _ _ _ => rfl,fun n cs h => .inl ⟨n,cs,h,rfl⟩,fun _ h => .inl h,rfl,rfl,rfl⟩
theorem Evo.trans {ρ m w ρ' m' w' ρ'' m'' w''} (h:Evo ρ m w ρ' m' w') (h':Evo ρ' m' w' ρ'' m'' w''):Evo ρ m w ρ'' m'' w'' where
 agree n hn:=by
  have a:=h.agree n hn
  have c:=h'.agree n (Nat.lt_of_lt_of_le hn h.len)
  exact ⟨c.blk.trans a.blk,c.sz.trans a.sz,c.sh.trans a.sh⟩
 len:=Nat.le_trans h.len h'.len
 size:=Nat.le_trans h.size h'.size
 frame b hb hn:=by
  rw [h'.frame b (Nat.lt_of_lt_of_le hb h.size) ?_,h.frame b hb hn]
  intro n cs hl he
  rcases h.fresh n cs hl with ⟨n0,cs0,h0,h1⟩ | h1
  ·exact hn n0 cs0 h0 (h1 ▸ he)
  ·omega
 fresh n cs hl:=by
  rcases h'.fresh n cs hl with ⟨n0,cs0,h0,h1⟩ | h1
  ·rcases h.fresh n0 cs0 h0 with ⟨n1,cs1,h2,h3⟩ | h3
   ·exact .inl ⟨n1,cs1,h2,h1.trans h3⟩
   ·exact .inr (by omega)
  ·exact .inr (Nat.le_trans h.size h1)
 named b hb:=by
  rcases h'.named b hb with h1 | h1
  ·exact h.named b h1
  ·exact .inr (Nat.le_trans h.size h1)
 tape:=h'.tape.trans h.tape
 os:=h'.os.trans h.os
 out:=h'.out.trans h.out
theorem cells_iff {m:Mem} {b:Nat} {cs:List Value}:m.cells b = some cs ↔ m[b]? = some (.live cs) ∨ m[b]? = some (.ro cs) ∨ ∃ q,m[b]? = some (.old cs q) ∧ oldB m m.length cs q = true:=by
 unfold Mem.cells
 constructor
 ·intro h
  cases h1:m[b]? with
  | none => simp [h1] at h
  | some o =>
   cases o with
   | live _ => simp [h1,MObj.cells] at h;subst h;simp
   | ro _ => simp [h1,MObj.cells] at h;subst h;simp
   | dead => simp [h1,MObj.cells] at h
   | old c q =>
    simp only [h1,Option.bind_some] at h
    cases h2:oldB m m.length c q with
    | true => rw [h2,cond_true] at h;cases h;exact .inr (.inr ⟨q,rfl,h2⟩)
    | false => rw [h2,cond_false] at h;cases h
 ·rintro (h | h | ⟨q,h,h2⟩)
  ·simp [h,MObj.cells]
  ·simp [h,MObj.cells]
  ·simp [h,h2]
theorem veq1_eq {x y:Value} (h:veq1 x y = true):x = y:=by
 unfold veq1 at h
 split at h <;> simp_all
 all_goals first | (rename_i a b;cases a;cases b;simp_all) | skip
theorem veqs_eq:∀ {x y:List Value},veqs x y = true → x = y
 | [],[],_ => rfl
 | [],_ :: _,h => by simp [veqs] at h
 | _ :: _,[],h => by simp [veqs] at h
 | a :: x,b :: y,h => by
  simp only [veqs,Bool.and_eq_true] at h
  rw [veq1_eq h.1,veqs_eq h.2]
theorem wcells_iff {m:Mem} {b:Nat} {cs:List Value}:m.wcells b = some cs ↔ m[b]? = some (.live cs):=by
 unfold Mem.wcells
 constructor
 ·intro h
  cases h1:m[b]? with
  | none => simp [h1] at h
  | some o => cases o <;> simp [h1,MObj.wcells] at h;subst h;rfl
 ·intro h;simp [h,MObj.wcells]
theorem add_none (b o n:Nat):(⟨b,o,none⟩:Addr).add n = ⟨b,o + n,none⟩:=by
 unfold Addr.add;split
 ·rename_i h;subst h;rfl
 ·rfl
theorem MRep.row {ρ m w} (h:MRep ρ m w) {n:Nat} {cs:List Value} (hc:m.cells n = some cs) :
 ∃ cs',VRs ρ m.length cs cs' ∧ ∀ j v,cs'[j]? = some v → ∀ w':World,w'.heap = w.heap → w'.cell? ⟨ρ.blk n,ρ.sh n + j,none⟩ = some v:=by
 have hlive:∀ {n cs},m[n]? = some (.live cs) → ∃ cs',VRs ρ m.length cs cs' ∧ ∀ j v,cs'[j]? = some v → ∀ w':World,w'.heap = w.heap → w'.cell? ⟨ρ.blk n,ρ.sh n + j,none⟩ = some v:=by
  intro n cs hc
  obtain ⟨real,elem,fr,h1,h2,h3,h4,h5,h6⟩:=h.live n cs hc
  refine ⟨_,h6,fun j v hj w' hw' => ?_⟩
  rw [List.getElem?_take] at hj
  split at hj
  ·rw [List.getElem?_drop] at hj
   simp [World.cell?,hw',h1,hj]
  ·simp at hj
 have hro:∀ {n cs},IsRo ρ m n cs → ∃ cs',VRs ρ m.length cs cs' ∧ ∀ j v,cs'[j]? = some v → ∀ w':World,w'.heap = w.heap → w'.cell? ⟨ρ.blk n,ρ.sh n + j,none⟩ = some v:=by
  intro n cs hc
  obtain ⟨_,_,cs',h1,h2⟩:=h.ro n cs hc
  refine ⟨cs',h1,fun j v hj w' hw' => ?_⟩
  have:=h2 j v hj
  unfold World.cell? at this ⊢
  rwa [hw']
 have hpre:∀ {n q:Nat} {cs cs1:List Value},Als ρ m n q → preB cs cs1 = true → (∃ cs',VRs ρ m.length cs1 cs' ∧ ∀ j v,cs'[j]? = some v → ∀ w':World,w'.heap = w.heap → w'.cell? ⟨ρ.blk q,ρ.sh q + j,none⟩ = some v) →
  ∃ cs',VRs ρ m.length cs cs' ∧ ∀ j v,cs'[j]? = some v → ∀ w':World,w'.heap = w.heap → w'.cell? ⟨ρ.blk n,ρ.sh n + j,none⟩ = some v:=by
  rintro n q cs cs1 ⟨_,hb,hs⟩ hp ⟨cs',h1,h2⟩
  have he:=veqs_eq hp
  refine ⟨cs'.take cs.length,?_,fun j v hj w' hw' => ?_⟩
  ·have:=h1.take cs.length
   rw [← he] at this
   exact this
  ·rw [hb,hs]
   rw [List.getElem?_take] at hj
   split at hj
   ·exact h2 j v hj w' hw'
   ·simp at hj
 have hold:∀ (f:Nat) {n q:Nat} {cs:List Value},m[n]? = some (.old cs q) → oldB m f cs q = true → ∃ cs',VRs ρ m.length cs cs' ∧ ∀ j v,cs'[j]? = some v → ∀ w':World,w'.heap = w.heap → w'.cell? ⟨ρ.blk n,ρ.sh n + j,none⟩ = some v:=by
  intro f
  induction f with
  | zero => intro n q cs _ h;simp [oldB] at h
  | succ f ih =>
   intro n q cs hn hb
   by_cases ha:Als ρ m n q
   ·unfold oldB at hb
    split at hb
    ·rename_i cs1 hq
     exact hpre ha hb (hlive hq)
    ·rename_i cs1 q1 hq
     rw [Bool.and_eq_true] at hb
     exact hpre ha hb.1 (ih hq hb.2)
    ·cases hb
   ·exact hro (.inr ⟨q,hn,ha⟩)
 rcases cells_iff.1 hc with hc | hc | ⟨q,hc,hb⟩
 ·exact hlive hc
 ·exact hro (.inl hc)
 ·exact hold _ hc hb
theorem MRep.get {ρ m w} (h:MRep ρ m w) {n:Nat} {cs:List Value} (hc:m.cells n = some cs) {i:Nat} {v:Value} (hi:cs[i]? = some v) :
 ∃ v',w.cell? ⟨ρ.blk n,ρ.sh n + i,none⟩ = some v' ∧ VR ρ m.length v v':=by
 obtain ⟨cs',h1,h2⟩:=h.row hc
 obtain ⟨v',h3,h4⟩:=h1.all i v hi
 exact ⟨v',h2 i v' h3 w rfl,h4⟩
theorem lt_of_get {m:Mem} {n:Nat} {o:MObj} (hc:m[n]? = some o):n < m.length:=by
 rcases Nat.lt_or_ge n m.length with h | h
 ·exact h
 ·simp [List.getElem?_eq_none h] at hc
theorem MRep.wlt {ρ m w} (h:MRep ρ m w) {n:Nat} {cs:List Value} (hc:m.wcells n = some cs):n < m.length:=lt_of_get (wcells_iff.1 hc)
def Rn.updS (ρ:Rn) (n b s h:Nat):Rn:=⟨fun i => if i = n then b else ρ.blk i,fun i => if i = n then s else ρ.sz i,fun i => if i = n then h else ρ.sh i⟩
theorem Rn.updS_agree (ρ:Rn) (n b s h:Nat):∀ i,i < n → (ρ.updS n b s h).Same ρ i:=by
 intro i hi
 have:i ≠ n:=by omega
 constructor <;> simp [Rn.updS,this]
theorem MRep.blk_lt {ρ m w} (h:MRep ρ m w) {n:Nat} {cs:List Value} (hc:m[n]? = some (.live cs)):ρ.blk n < w.heap.size:=by
 obtain ⟨real,elem,fr,h1,_⟩:=h.live n cs hc
 rcases Nat.lt_or_ge (ρ.blk n) w.heap.size with h | h
 ·exact h
 ·simp [Array.getElem?_eq_none h] at h1
theorem ro_keep {ρ ρ':Rn} {m:Mem} {w w':World} {L' n:Nat} {cs:List Value} (hr:ρ.blk n < w.heap.size ∧ (∀ n' cs',m[n']? = some (.live cs') → ρ.blk n' ≠ ρ.blk n) ∧ ∃ cs',VRs ρ m.length cs cs' ∧ ∀ j v,cs'[j]? = some v → w.cell? ⟨ρ.blk n,ρ.sh n + j,none⟩ = some v)
 (hn:n < m.length) (ha:∀ n,n < m.length → ρ'.Same ρ n) (hl:m.length ≤ L') (hw:w'.heap[ρ.blk n]? = w.heap[ρ.blk n]?) (hsz:w.heap.size ≤ w'.heap.size) :
 ρ'.blk n < w'.heap.size ∧ ∃ cs',VRs ρ' L' cs cs' ∧ ∀ j v,cs'[j]? = some v → w'.cell? ⟨ρ'.blk n,ρ'.sh n + j,none⟩ = some v:=by
 obtain ⟨h1,_,cs',h2,h3⟩:=hr
 refine ⟨by rw [(ha n hn).blk];omega,cs',h2.mono ha hl,fun j v hj => ?_⟩
 have:=h3 j v hj
 rw [(ha n hn).blk,(ha n hn).sh]
 unfold World.cell? at this ⊢
 simp only at this ⊢
 rwa [hw]
def Rn.upd (ρ:Rn) (n b s:Nat):Rn:=⟨fun i => if i = n then b else ρ.blk i,fun i => if i = n then s else ρ.sz i,fun i => if i = n then 0 else ρ.sh i⟩
theorem Rn.upd_agree (ρ:Rn) (n b s:Nat):∀ i,i < n → (ρ.upd n b s).Same ρ i:=by
 intro i hi
 have:i ≠ n:=by omega
 constructor <;> simp [Rn.upd,this]
theorem getElem?_snoc {α:Type} (m:List α) (o:α) (n:Nat):(m ++ [o])[n]? = if n < m.length then m[n]? else if n = m.length then some o else none:=by
 rw [List.getElem?_append]
 split
 ·rfl
 ·split
  ·rename_i h1 h2;subst h2;simp
  ·rename_i h1 h2
   rw [List.getElem?_eq_none]
   simp only [List.length_cons,List.length_nil]
   omega
theorem MRep.alloc {ρ m w} (h:MRep ρ m w) {cs real:List Value} {elem:TypeId} {fr:Nat × Nat} (hcs:VRs ρ m.length cs (real.take cs.length)) (hle:cs.length ≤ real.length) (h1:∀ v ∈ real,v.oneCell' = true)
 (hfr:∀ j,j < real.length → (decide (fr.1 ≤ j) && decide (j < fr.2)) = false) {w':World} (hw:w'.heap = w.heap.push (.cells ⟨real⟩ elem fr)) (ht:w'.tape = w.tape) (ho:w'.os = w.os) (hout:w'.output = w.output) :
 MRep (ρ.upd m.length w.heap.size real.length) (m ++ [.live cs]) w' ∧ Evo ρ m w (ρ.upd m.length w.heap.size real.length) (m ++ [.live cs]) w':=by
 have hag:=Rn.upd_agree ρ m.length w.heap.size real.length
 have hself:(ρ.upd m.length w.heap.size real.length).blk m.length = w.heap.size:=by simp [Rn.upd]
 have hself':(ρ.upd m.length w.heap.size real.length).sz m.length = real.length:=by simp [Rn.upd]
 have hself2:(ρ.upd m.length w.heap.size real.length).sh m.length = 0:=by simp [Rn.upd]
 have hold:∀ b,b < w.heap.size → w'.heap[b]? = w.heap[b]?:=by
  intro b hb
  rw [hw,Array.getElem?_push,if_neg (by omega)]
 have hsz:w.heap.size ≤ w'.heap.size:=by rw [hw];simp
 have hget:∀ {o:MObj} (n:Nat),(m ++ [MObj.live cs])[n]? = some o → (n < m.length ∧ m[n]? = some o) ∨ (n = m.length ∧ o = .live cs):=by
  intro o n hn
  rw [getElem?_snoc] at hn
  split at hn
  ·rename_i hlt;exact .inl ⟨hlt,hn⟩
  ·split at hn
   ·rename_i h2;simp at hn;exact .inr ⟨h2,hn.symm⟩
   ·simp at hn
 refine ⟨⟨?_,?_,?_⟩,⟨hag,by simp,hsz,fun b hb _ => hold b hb,?_,?_,ht,ho,hout⟩⟩
 ·intro n cs' hn
  rcases hget n hn with ⟨hlt,hn⟩ | ⟨rfl,hn⟩
  ·obtain ⟨real',elem',fr',a1,a2,a3,a4,a5,a6⟩:=h.live n cs' hn
   refine ⟨real',elem',fr',?_,?_,?_,a4,a5,?_⟩
   ·rw [(hag n hlt).blk,hold _ (h.blk_lt hn)];exact a1
   ·rw [(hag n hlt).sz];exact a2
   ·rw [(hag n hlt).sh];exact a3
   ·rw [(hag n hlt).sh];exact a6.mono hag (by simp)
  ·simp at hn;subst hn
   refine ⟨real,elem,fr,?_,hself'.symm,by rw [hself2];omega,hfr,h1,by rw [hself2];exact hcs.mono hag (by simp)⟩
   rw [hself,hw];simp
 ·intro n n' cs1 cs2 hn hn' he
  rcases hget n hn with ⟨hlt,hn⟩ | ⟨rfl,hn⟩ <;> rcases hget n' hn' with ⟨hlt',hn'⟩ | ⟨h',hn'⟩
  ·rw [(hag n hlt).blk,(hag n' hlt').blk] at he
   exact h.inj n n' cs1 cs2 hn hn' he
  ·subst h'
   rw [(hag n hlt).blk,hself] at he
   have:=h.blk_lt hn
   omega
  ·rw [(hag n' hlt').blk,hself] at he
   have:=h.blk_lt hn'
   omega
  ·exact h'.symm
 ·intro n c hn
  obtain ⟨o,ho1,ho2⟩:=hn.get
  rcases hget n ho1 with ⟨hlt,_⟩ | ⟨_,hx⟩
  ·have hr:=h.ro n c (hn.back (by simp) (fun n hn => ⟨(hag n hn).blk,(hag n hn).sh⟩) hlt fun o ho hno => by
    rcases hget n ho with ⟨_,h⟩ | ⟨_,h⟩
    ·exact h
    ·exact absurd h (hno _))
   obtain ⟨b1,b2⟩:=ro_keep (L':=(m ++ [MObj.live cs]).length) hr hlt hag (by simp) (hold _ hr.1) hsz
   refine ⟨b1,fun n' c' hn' => ?_,b2⟩
   rw [(hag n hlt).blk]
   rcases hget n' hn' with ⟨hlt',hn'⟩ | ⟨rfl,_⟩
   ·rw [(hag n' hlt').blk];exact hr.2.1 n' c' hn'
   ·rw [hself];have:=hr.1;omega
  ·exact absurd hx (ho2 _)
 ·intro n cs' hn
  rcases hget n hn with ⟨hlt,hn⟩ | ⟨rfl,hn⟩
  ·exact .inl ⟨n,cs',hn,(hag n hlt).blk⟩
  ·exact .inr (by rw [hself];exact Nat.le_refl _)
 ·rintro b ⟨n,c,hn,rfl⟩
  rcases hn with hn | hn
  ·rcases hget n hn with ⟨hlt,hn⟩ | ⟨rfl,hn⟩
   ·exact .inl ⟨n,c,.inl hn,(hag n hlt).blk.symm⟩
   ·exact .inr (by rw [hself];exact Nat.le_refl _)
  ·obtain ⟨o,ho1,ho2⟩:=hn.get
   rcases hget n ho1 with ⟨hlt,_⟩ | ⟨_,hx⟩
   ·exact .inl ⟨n,c,.inr (hn.back (by simp) (fun n hn => ⟨(hag n hn).blk,(hag n hn).sh⟩) hlt fun o ho hno => by
     rcases hget n ho with ⟨_,h⟩ | ⟨_,h⟩
     ·exact h
     ·exact absurd h (hno _)),(hag n hlt).blk.symm⟩
   ·exact absurd hx (ho2 _)
theorem MRep.change {ρ m w} (h:MRep ρ m w) {n:Nat} {cs cs' real':List Value} {elem:TypeId} {fr:Nat × Nat} (hn:m[n]? = some (.live cs)) (hlen:real'.length = ρ.sz n) (hle:ρ.sh n + cs'.length ≤ real'.length)
 (hfr:∀ j,j < real'.length → (decide (fr.1 ≤ j) && decide (j < fr.2)) = false) (h1:∀ v ∈ real',v.oneCell' = true) (hcs:VRs ρ m.length cs' ((real'.drop (ρ.sh n)).take cs'.length))
 {w':World} (hw:w'.heap[ρ.blk n]? = some (.cells ⟨real'⟩ elem fr)) (hot:∀ b,b ≠ ρ.blk n → w'.heap[b]? = w.heap[b]?) (hsz:w'.heap.size = w.heap.size) (ht:w'.tape = w.tape) (ho:w'.os = w.os) (hout:w'.output = w.output) :
 MRep ρ (m.set n (.live cs')) w' ∧ Evo ρ m w ρ (m.set n (.live cs')) w':=by
 have hlt:n < m.length:=lt_of_get hn
 have hget:∀ (i:Nat),(m.set n (MObj.live cs'))[i]? = if i = n then some (MObj.live cs') else m[i]?:=by
  intro i
  rw [List.getElem?_set]
  by_cases hi:n = i
  ·subst hi;simp [hlt]
  ·rw [if_neg hi,if_neg (fun h => hi h.symm)]
 have hall:∀ (i:Nat) c,(m.set n (MObj.live cs'))[i]? = some (MObj.live c) → ∃ c0,m[i]? = some (MObj.live c0):=by
  intro i c hi
  rw [hget] at hi
  split at hi
  ·rename_i h2;subst h2;exact ⟨cs,hn⟩
  ·exact ⟨c,hi⟩
 have sam:∀ i,i < m.length → ρ.Same ρ i:=fun _ _ => ⟨rfl,rfl,rfl⟩
 refine ⟨⟨?_,?_,?_⟩,⟨sam,by simp,by omega,?_,?_,?_,ht,ho,hout⟩⟩
 ·intro i c hi
  rw [hget] at hi
  simp only [List.length_set]
  split at hi
  ·rename_i h2;subst h2
   simp at hi;subst hi
   exact ⟨real',elem,fr,hw,hlen,hle,hfr,h1,hcs⟩
  ·rename_i h2
   obtain ⟨real,el,f,a1,a2,a3,a4,a5,a6⟩:=h.live i c hi
   refine ⟨real,el,f,?_,a2,a3,a4,a5,a6⟩
   rw [hot _ (fun he => h2 (h.inj i n c cs hi hn he))];exact a1
 ·intro i i' c c' hi hi' he
  obtain ⟨d,hd⟩:=hall i c hi
  obtain ⟨d',hd'⟩:=hall i' c' hi'
  exact h.inj i i' d d' hd hd' he
 ·intro i c hi0
  obtain ⟨o,ho1,ho2⟩:=hi0.get
  have hi:=ho1
  rw [hget] at hi
  split at hi
  ·simp only [Option.some.injEq] at hi;exact absurd hi.symm (ho2 _)
  ·rename_i hne
   have hr:=h.ro i c (hi0.back (by simp) (fun _ _ => ⟨rfl,rfl⟩) (lt_of_get hi) fun o ho _ => by rw [hget,if_neg hne] at ho;exact ho)
   obtain ⟨b1,b2⟩:=ro_keep (L':=(m.set n (MObj.live cs')).length) hr (lt_of_get hi) sam (by simp) (hot _ (fun he => hr.2.1 n cs hn he.symm)) (by omega)
   refine ⟨b1,fun n' c' hn' => ?_,b2⟩
   obtain ⟨d,hd⟩:=hall n' c' hn'
   exact hr.2.1 n' d hd
 ·intro b hb hne
  exact hot b (fun he => hne n cs hn he.symm)
 ·intro i c hi
  obtain ⟨d,hd⟩:=hall i c hi
  exact .inl ⟨i,d,hd,rfl⟩
 ·rintro b ⟨i,c,hi,rfl⟩
  rcases hi with hi | hi0
  ·obtain ⟨d,hd⟩:=hall i c hi
   exact .inl ⟨i,d,.inl hd,rfl⟩
  ·obtain ⟨o,ho1,ho2⟩:=hi0.get
   have hi:=ho1
   rw [hget] at hi
   split at hi
   ·simp only [Option.some.injEq] at hi;exact absurd hi.symm (ho2 _)
   ·rename_i hne
    exact .inl ⟨i,c,.inr (hi0.back (by simp) (fun _ _ => ⟨rfl,rfl⟩) (lt_of_get hi) fun o ho _ => by rw [hget,if_neg hne] at ho;exact ho),rfl⟩
theorem MRep.heap {ρ m w} (h:MRep ρ m w) {w':World} (hw:w'.heap = w.heap):MRep ρ m w' :=
 ⟨fun n cs hn => by rw [hw];exact h.live n cs hn,h.inj,fun n cs hn => by
  obtain ⟨a,b,cs',c,d⟩:=h.ro n cs hn
  refine ⟨by rw [hw];exact a,b,cs',c,fun j v hj => ?_⟩
  have:=d j v hj
  unfold World.cell? at this ⊢
  rwa [hw]⟩
theorem MRep.drawn {ρ m w} (h:MRep ρ m w) {w':World} (hw:w'.heap = w.heap) (ht:w'.tape = w.tape) (ho:w'.os = w.os) (hout:w'.output = w.output):MRep ρ m w' ∧ Evo ρ m w ρ m w' :=
 ⟨h.heap hw,⟨fun _ _ => ⟨rfl,rfl,rfl⟩,Nat.le_refl _,by rw [hw];exact Nat.le_refl _,fun b _ _ => by rw [hw],fun n cs hn => .inl ⟨n,cs,hn,rfl⟩,fun _ h => .inl h,ht,ho,hout⟩⟩
theorem run_load_of {P:Program} {w:World} {a:Addr} {v:Value} (h:w.cell? a = some v):(load a).run P w = .ok v w:=by
 rw [run_load,h]
theorem MRep.cell {ρ m w} (h:MRep ρ m w) {a:Addr} {cs:List Value} (hc:m.cells a.block = some cs) {v:Value} (hi:cs[a.off]? = some v) :
 ∃ v',w.cell? (toR ρ a) = some v' ∧ VR ρ m.length v v':=h.get hc hi
theorem MRep.loadCells {ρ m w} (h:MRep ρ m w) {P:Program} {a:Addr} {n:Nat} {cs vs:List Value} (hc:m.cells a.block = some cs) (hv:cCells cs a.off n = some vs) :
 ∃ vs',(∀ w',w'.heap = w.heap → (loadCells (toR ρ a) n).run P w' = .ok ⟨vs'⟩ w') ∧ VRs ρ m.length vs vs' ∧ vs.length = n:=by
 unfold cCells at hv
 split at hv
 ·rename_i hle
  simp only [Option.some.injEq] at hv
  subst hv
  obtain ⟨cs',h6,h8⟩:=h.row hc
  have h7:=(h6.drop a.off).take n
  have hl:((cs.drop a.off).take n).length = n:=by simp;omega
  refine ⟨(cs'.drop a.off).take n,fun w' hw' => ?_,h7,hl⟩
  have key:=run_loadCells_list (P:=P) (w:=w') (toR ρ a) ((cs'.drop a.off).take n) (by
   intro j v hj
   rw [toR,add_none,Nat.add_assoc]
   rw [List.getElem?_take] at hj
   split at hj
   ·rw [List.getElem?_drop] at hj
    exact h8 _ v hj w' hw'
   ·simp at hj)
  have hl2:((cs'.drop a.off).take n).length = n:=by rw [← h7.len];exact hl
  rw [hl2] at key
  exact key
 ·simp at hv
theorem MRep.setCell {ρ m w} (h:MRep ρ m w) {b o:Nat} {v v':Value} {cs:List Value} (hc:m.wcells b = some cs) (ho:o < cs.length) (hv:VR ρ m.length v v') (h1:isOne v = true) :
 ∃ old,w.cell? ⟨ρ.blk b,ρ.sh b + o,none⟩ = some old ∧ w.frozen? ⟨ρ.blk b,ρ.sh b + o,none⟩ = false ∧ MRep ρ (m.set b (.live (cs.set o v))) (w.setCell ⟨ρ.blk b,ρ.sh b + o,none⟩ v') ∧
  Evo ρ m w ρ (m.set b (.live (cs.set o v))) (w.setCell ⟨ρ.blk b,ρ.sh b + o,none⟩ v'):=by
 have hn:=wcells_iff.1 hc
 obtain ⟨real,elem,fr,a1,a2,a3,a4,a5,a6⟩:=h.live b cs hn
 have hor:ρ.sh b + o < real.length:=by omega
 refine ⟨real[ρ.sh b + o],?_,?_,?_⟩
 ·simp [World.cell?,a1,hor]
 ·simp only [World.frozen?,a1];exact a4 _ hor
 ·have hw:(w.setCell ⟨ρ.blk b,ρ.sh b + o,none⟩ v').heap = w.heap.modify (ρ.blk b) fun
   | .cells c elem frozen => .cells (c.setIfInBounds (ρ.sh b + o) v') elem frozen
   | o => o:=rfl
  refine h.change (cs':=cs.set o v) (real':=real.set (ρ.sh b + o) v') (elem:=elem) (fr:=fr) hn (by simp [a2]) (by simp;exact a3) (by simpa using a4) ?_ ?_ ?_ ?_ ?_ rfl rfl rfl
  ·intro x hx
   rcases List.mem_or_eq_of_mem_set hx with hx | rfl
   ·exact a5 x hx
   ·rw [← hv.one];exact h1
  ·have:=a6.set o hv h1
   rw [List.length_set,List.drop_set,if_neg (by omega),Nat.add_sub_cancel_left,List.take_set];exact this
  ·rw [hw,Array.getElem?_modify,if_pos rfl,a1];simp
  ·intro b' hb'
   rw [hw,Array.getElem?_modify,if_neg (fun h => hb' h.symm)]
  ·rw [hw];simp
end Go.Mx
set_option linter.unusedVariables false
set_option linter.unusedSimpArgs false
namespace Go.Mx
def descOk (P:Program) (T:TT) (t:Nat):TD → Prop
 | .int k => P.underlying t = some (.int k)
 | .bool => P.underlying t = some .bool
 | .str => P.underlying t = some .string
 | .ptr e => P.underlying t = some (.pointer e)
 | .slice e => P.underlying t = some (.slice e) ∧ (T e).d ≠ .other
 | .map => ∃ k e,P.underlying t = some (.map k e)
 | .struct fs => ∃ fields,P.underlying t = some (.struct fields) ∧ fields.toList.map (fun f => (f.type,f.offset)) = fs ∧ ∀ f ∈ fs,(T f.1).d ≠ .other
 | .array n e => P.underlying t = some (.array n e) ∧ (T e).d ≠ .other
 | .iface => ∃ ms,P.underlying t = some (.interface ms)
 | .fn => ∃ a b c,P.underlying t = some (.func a b c)
 | .other => False
def notOther:TD → Bool
 | .other => false
 | _ => true
theorem notOther_ne {d:TD} (h:notOther d = true):d ≠ .other:=by cases d <;> simp_all [notOther]
def eqFs (rec:TypeId → List EK → Bool) (T:TT):List Field → Nat → List EK → Bool
 | [],_,ks => ks.isEmpty
 | g :: gs,off,ks => (g.name != "_") && Nat.beq g.offset off && notOther (T g.type).d && Nat.ble (T g.type).size ks.length && rec g.type (ks.take (T g.type).size) && eqFs rec T gs (off + (T g.type).size) (ks.drop (T g.type).size)
def eqTy (P:Program) (T:TT):Nat → TypeId → List EK → Bool
 | 0,_,_ => false
 | f + 1,t,ks => match P.underlying t with
  | some .bool => decide (ks = [.bool])
  | some (.int k) => decide (ks = [.int k])
  | some .string => decide (ks = [.str])
  | some (.struct fs) => !(P.stoodInHeld t) && Nat.beq ks.length (T t).size && eqFs (eqTy P T f) T fs.toList 0 ks
  | some (.array n e) => notOther (T e).d && Nat.beq ks.length (T t).size && Nat.beq ks.length (n * (T e).size) && (List.range n).all fun i => eqTy P T f e ((ks.drop (i * (T e).size)).take (T e).size)
  | _ => false
def agg?:TD → Bool
 | .struct _ | .array _ _ => true
 | _ => false
structure TyOk (P:Program) (T:TT) (t:Nat):Prop where
 info:∃ i,P.info? t = some i ∧ i.size = (T t).size ∧ i.bytes = (T t).bytes ∧ ∃ z,i.zero = some z ∧ z.cells.toList = (T t).zero
 plain:∀ v ∈ (T t).zero,plainV v = true
 zlen:(T t).zero.length = (T t).size
 one:agg? (T t).d = false → (T t).size = 1
 cmp:∀ k,(T t).d = .int k → ∃ i,P.info? t = some i ∧ i.comparable = true
 desc:descOk P T t (T t).d
 eqv:∀ ks,(T t).eq = some ks → eqTy P T 30 t ks = true ∧ P.eqGuardType P.depth t = false
def TOk (P:Program) (T:TT):Prop:=∀ t,(T t).d ≠ .other → TyOk P T t
section
variable {P:Program} {T:TT} {t:Nat}
theorem TyOk.size (h:TyOk P T t) (w:World):(sizeOf t).run P w = .ok (T t).size w:=by
 obtain ⟨i,h1,h2,_⟩:=h.info
 simp [sizeOf,typeInfo,h1,h2]
theorem TyOk.zero (h:TyOk P T t) (w:World):∃ z,(zeroValue t).run P w = .ok z w ∧ z.cells.toList = (T t).zero:=by
 obtain ⟨i,h1,h2,h3,z,h4,h5⟩:=h.info
 exact ⟨z,by simp [zeroValue,Go.typeInfo,h1,h4],h5⟩
theorem under (w:World) {d:TypeDesc} (h:P.underlying t = some d):(underlying t).run P w = .ok d w:=by
 simp [Go.underlying,h]
theorem TyOk.isAgg (h:TyOk P T t) (w:World):(isAgg t).run P w = .ok (agg? (T t).d) w:=by
 have hd:=h.desc
 unfold Go.isAgg
 cases hk:(T t).d <;> rw [hk] at hd <;> simp only [descOk] at hd
 case int k => simp [under w hd,agg?]
 case bool => simp [under w hd,agg?]
 case str => simp [under w hd,agg?]
 case ptr e => simp [under w hd,agg?]
 case slice e => simp [under w hd.1,agg?]
 case map => obtain ⟨a,b,hd⟩:=hd;simp [under w hd,agg?]
 case struct fs => obtain ⟨a,hd,_⟩:=hd;simp [under w hd,agg?]
 case array n e => simp [under w hd.1,agg?]
 case iface => obtain ⟨a,hd⟩:=hd;simp [under w hd,agg?]
 case fn => obtain ⟨a,b,c,hd⟩:=hd;simp [under w hd,agg?]
theorem part_one {cs:Array Value} {i:Nat} {v:Value} (h:TyOk P T t) (ha:agg? (T t).d = false) (hv:cs[i]? = some v) (w:World):(part t cs i).run P w = .ok v w:=by
 unfold part
 simp [h.isAgg w,ha,hv]
theorem part_agg {cs:Array Value} {i:Nat} (h:TyOk P T t) (ha:agg? (T t).d = true) (w:World):(part t cs i).run P w = .ok (.agg (cs.extract i (i + (T t).size))) w:=by
 unfold part
 simp [h.isAgg w,ha,h.size w]
theorem loadVar_one {a:Addr} {v:Value} (h:TyOk P T t) (ha:agg? (T t).d = false) {w:World} (hv:w.cell? a = some v):(loadVar t a).run P w = .ok v w:=by
 unfold loadVar
 simp only [Sem.run_bind,h.isAgg w,Result.andThen_ok,ha,Bool.false_eq_true,if_false]
 exact run_load_of hv
theorem loadVar_agg {a:Addr} {vs:Array Value} (h:TyOk P T t) (ha:agg? (T t).d = true) {w:World} (hv:(loadCells a (T t).size).run P w = .ok vs w):(loadVar t a).run P w = .ok (.agg vs) w:=by
 unfold loadVar
 simp [h.isAgg w,ha,h.size w,hv]
end
theorem cInt_of {k cs i n} (h:cInt k cs i = some n):cs[i]? = some (.int k n):=by
 unfold cInt at h;split at h
 ·split at h
  ·rename_i h1 h2;subst h2;simp at h;subst h;exact h1
  ·simp at h
 ·simp at h
theorem cBool_of {cs i b} (h:cBool cs i = some b):cs[i]? = some (.bool b):=by
 unfold cBool at h;split at h
 ·rename_i h1;simp at h;subst h;exact h1
 ·simp at h
theorem cPtr_of {cs i b} (h:cPtr cs i = some b):cs[i]? = some (.pointer b):=by
 unfold cPtr at h;split at h
 ·rename_i h1;simp at h;subst h;exact h1
 ·simp at h
theorem cSl_of {cs i b} (h:cSl cs i = some b):cs[i]? = some (.slice b.a b.len b.cap):=by
 unfold cSl at h;split at h
 ·rename_i h1;simp at h;subst h;exact h1
 ·simp at h
theorem cStr_of {cs i b} (h:cStr cs i = some b):cs[i]? = some (.string b):=by
 unfold cStr at h;split at h
 ·rename_i h1;simp at h;subst h;exact h1
 ·simp at h
theorem cMap_of {cs i b} (h:cMap cs i = some b):cs[i]? = some (.map b):=by
 unfold cMap at h;split at h
 ·rename_i h1;simp at h;subst h;exact h1
 ·simp at h
section
variable {P:Program} {T:TT} {t:Nat} {R:Type} {K:Value → Option R} {r:R}
theorem getT_inv {cs:List Value} {i:Nat} (h:getT T t cs i K = some r) :
 ((T t).d ≠ .other) ∧ ((agg? (T t).d = false ∧ ∃ v,cs[i]? = some v ∧ K v = some r) ∨ (agg? (T t).d = true ∧ ∃ vs,cCells cs i (T t).size = some vs ∧ K (.agg ⟨vs⟩) = some r)):=by
 unfold getT at h
 cases hd:(T t).d <;> simp only [hd] at h <;> (try simp only [Option.bind_eq_some_iff] at h)
 case int k => obtain ⟨n,h1,h2⟩:=h;exact ⟨by simp,.inl ⟨rfl,_,cInt_of h1,h2⟩⟩
 case bool => obtain ⟨n,h1,h2⟩:=h;exact ⟨by simp,.inl ⟨rfl,_,cBool_of h1,h2⟩⟩
 case str => obtain ⟨n,h1,h2⟩:=h;exact ⟨by simp,.inl ⟨rfl,_,cStr_of h1,h2⟩⟩
 case ptr e => obtain ⟨n,h1,h2⟩:=h;exact ⟨by simp,.inl ⟨rfl,_,cPtr_of h1,h2⟩⟩
 case slice e => obtain ⟨n,h1,h2⟩:=h;exact ⟨by simp,.inl ⟨rfl,_,cSl_of h1,h2⟩⟩
 case map => obtain ⟨n,h1,h2⟩:=h;exact ⟨by simp,.inl ⟨rfl,_,cMap_of h1,h2⟩⟩
 case struct fs => obtain ⟨n,h1,h2⟩:=h;exact ⟨by simp,.inr ⟨rfl,_,h1,h2⟩⟩
 case array a b => obtain ⟨n,h1,h2⟩:=h;exact ⟨by simp,.inr ⟨rfl,_,h1,h2⟩⟩
 case iface => obtain ⟨n,h1,h2⟩:=h;exact ⟨by simp,.inl ⟨rfl,_,h1,h2⟩⟩
 case fn => obtain ⟨n,h1,h2⟩:=h;exact ⟨by simp,.inl ⟨rfl,_,h1,h2⟩⟩
 case other => simp at h
theorem ldT_eq (m:Mem) (a:Addr):ldT T t m a K = (m.cells a.block).bind fun cs => getT T t cs a.off K:=by
 unfold ldT getT ldInt ldBool ldPtr ldSl ldMap ldStr ldCells ldVal
 cases (T t).d <;> simp [Option.bind_assoc]
theorem getT_sound (hT:TOk P T) {ρ:Rn} {L:Nat} {cs cs':List Value} {i:Nat} (h:getT T t cs i K = some r) (hc:VRs ρ L cs cs') (w:World) :
 ∃ v v',K v = some r ∧ VR ρ L v v' ∧ (part t ⟨cs'⟩ i).run P w = .ok v' w:=by
 obtain ⟨hne,h⟩:=getT_inv h
 have ht:=hT t hne
 rcases h with ⟨ha,v,h1,h2⟩ | ⟨ha,vs,h1,h2⟩
 ·obtain ⟨v',h3,h4⟩:=hc.all i v h1
  exact ⟨v,v',h2,h4,part_one ht ha (by simpa using h3) w⟩
 ·unfold cCells at h1
  split at h1
  ·rename_i hle
   simp only [Option.some.injEq] at h1
   subst h1
   refine ⟨_,.agg ⟨(cs'.drop i).take (T t).size⟩,h2,VR.agg_iff.2 ((hc.drop i).take _),?_⟩
   rw [part_agg ht ha w]
   congr 2
   apply Array.toList_inj.1
   rw [Array.toList_extract]
   simp [List.extract_eq_take_drop]
  ·simp at h1
theorem ldT_sound (hT:TOk P T) {ρ:Rn} {m:Mem} {w:World} (hm:MRep ρ m w) {a:Addr} (h:ldT T t m a K = some r) :
 ∃ v v',K v = some r ∧ VR ρ m.length v v' ∧ (loadVar t (toR ρ a)).run P w = .ok v' w:=by
 rw [ldT_eq,Option.bind_eq_some_iff] at h
 obtain ⟨cs,hcs,h⟩:=h
 obtain ⟨hne,h⟩:=getT_inv h
 have ht:=hT t hne
 rcases h with ⟨ha,v,h1,h2⟩ | ⟨ha,vs,h1,h2⟩
 ·obtain ⟨v',h3,h4⟩:=hm.cell hcs h1
  exact ⟨v,v',h2,h4,loadVar_one ht ha h3⟩
 ·obtain ⟨vs',h3,h4,h5⟩:=hm.loadCells (P:=P) hcs h1
  exact ⟨_,.agg ⟨vs'⟩,h2,VR.agg_iff.2 h4,loadVar_agg ht ha (h3 w rfl)⟩
theorem seg_step (cs:List Value) (i:Nat) (v:Value) (rest:List Value) (h:i + (rest.length + 1) ≤ cs.length) :
 (cs.set i v).take (i + 1) ++ rest ++ (cs.set i v).drop (i + 1 + rest.length) = cs.take i ++ v :: rest ++ cs.drop (i + (rest.length + 1)):=by
 have h1:(cs.set i v).take (i + 1) = cs.take i ++ [v]:=by
  rw [List.take_succ_eq_append_getElem (by simp;omega)]
  simp [List.take_set_of_le]
 have h2:(cs.set i v).drop (i + 1 + rest.length) = cs.drop (i + (rest.length + 1)):=by
  rw [List.drop_set_of_lt (by omega)]
  congr 1;omega
 rw [h1,h2];simp
theorem set_set_mem (m:Mem) (b:Nat) (x y:MObj):(m.set b x).set b y = m.set b y:=by simp
theorem MRep.storeCells {ρ:Rn} {b o:Nat}:∀ (vs vs':List Value) (i:Nat) (cs:List Value) (m:Mem) (w:World),MRep ρ m w → m.wcells b = some cs → o + i + vs.length ≤ cs.length → VRs ρ m.length vs vs' →
 ∃ w',(Go.storeCells ⟨ρ.blk b,ρ.sh b + o,none⟩ vs' i).run P w = .ok () w' ∧ MRep ρ (m.set b (.live (cs.take (o + i) ++ vs ++ cs.drop (o + i + vs.length)))) w' ∧
  Evo ρ m w ρ (m.set b (.live (cs.take (o + i) ++ vs ++ cs.drop (o + i + vs.length)))) w'
 | [],vs',i,cs,m,w,hm,hc,hl,hv => by
  have:vs' = []:=by
   have:=hv.len
   cases vs' with
   | nil => rfl
   | cons _ _ => simp at this
  subst this
  refine ⟨w,rfl,?_⟩
  have hself:m.set b (.live (cs.take (o + i) ++ [] ++ cs.drop (o + i + ([]:List Value).length))) = m:=by
   simp only [List.append_nil,List.length_nil,Nat.add_zero,List.take_append_drop]
   apply List.ext_getElem?
   intro j
   rw [List.getElem?_set]
   split
   ·rename_i h;subst h
    rw [if_pos (hm.wlt hc),wcells_iff.1 hc]
   ·rfl
  rw [hself]
  exact ⟨hm,Evo.refl _ _ _⟩
 | v :: vs,vs',i,cs,m,w,hm,hc,hl,hv => by
  cases vs' with
  | nil => have:=hv.len;simp at this
  | cons v' vs' =>
   simp only [List.length_cons] at hl
   have hv0:VR ρ m.length v v':=by
    obtain ⟨x,h1,h2⟩:=hv.all 0 v rfl
    simp at h1;subst h1;exact h2
   have hone:isOne v = true:=hv.one v (by simp)
   have hvs:VRs ρ m.length vs vs':=by
    refine ⟨by have:=hv.len;simpa using this,fun x hx => hv.one x (by simp [hx]),fun j x hj => ?_⟩
    have:=hv.all (j + 1) x (by simpa using hj)
    simpa using this
   obtain ⟨old,h1,h2,h3,h4⟩:=hm.setCell (o:=o + i) hc (by omega) hv0 hone
   have hc':Mem.wcells (m.set b (.live (cs.set (o + i) v))) b = some (cs.set (o + i) v):=by
    rw [wcells_iff,List.getElem?_set]
    simp [hm.wlt hc]
   obtain ⟨w',h5,h6,h7⟩:=MRep.storeCells (o:=o) vs vs' (i + 1) (cs.set (o + i) v) _ _ h3 hc' (by simp;omega) (by simpa using hvs)
   have e:(cs.set (o + i) v).take (o + (i + 1)) ++ vs ++ (cs.set (o + i) v).drop (o + (i + 1) + vs.length) = cs.take (o + i) ++ v :: vs ++ cs.drop (o + i + (v :: vs).length):=by
    have:=seg_step cs (o + i) v vs (by omega)
    rw [List.length_cons]
    rw [show o + (i + 1) = o + i + 1 by omega]
    exact this
   rw [set_set_mem,e] at h6 h7
   refine ⟨w',?_,h6,h4.trans h7⟩
   have hst:(store (⟨ρ.blk b,ρ.sh b + (o + i),none⟩:Addr) v').run P w = .ok () (w.setCell ⟨ρ.blk b,ρ.sh b + (o + i),none⟩ v'):=by
    rw [run_store P w _ v' .plain (by rw [← hv0.one];exact hone),h1]
    simp [h2]
   rw [Go.storeCells,add_none,Nat.add_assoc,Sem.run_bind,hst]
   exact h5
theorem st_inv {m m':Mem} {a:Addr} {v:Value} (h:st m a v = some m'):∃ cs,m.wcells a.block = some cs ∧ a.off < cs.length ∧ m' = m.set a.block (.live (cs.set a.off v)):=by
 unfold st at h
 simp only [Option.bind_eq_some_iff] at h
 obtain ⟨cs,h1,cs',h2,h3⟩:=h
 unfold setCell at h2
 split at h2
 ·rename_i hlt
  simp at h2 h3
  exact ⟨cs,h1,hlt,by rw [← h3,← h2]⟩
 ·simp at h2
theorem stCells_inv {m m':Mem} {a:Addr} {vs:List Value} (h:stCells m a vs = some m'):∃ cs,m.wcells a.block = some cs ∧ a.off + vs.length ≤ cs.length ∧ m' = m.set a.block (.live (cs.take a.off ++ vs ++ cs.drop (a.off + vs.length))):=by
 unfold stCells at h
 simp only [Option.bind_eq_some_iff] at h
 obtain ⟨cs,h1,cs',h2,h3⟩:=h
 unfold setCells at h2
 split at h2
 ·rename_i hlt
  simp only [Option.some.injEq] at h2 h3
  exact ⟨cs,h1,hlt,by rw [← h3,← h2]⟩
 ·simp at h2
theorem stCells_sound {ρ:Rn} {m m':Mem} {w:World} (hm:MRep ρ m w) {a:Addr} {vs vs':List Value} (h:stCells m a vs = some m') (hv:VRs ρ m.length vs vs') :
 ∃ w',(Go.storeCells (toR ρ a) vs').run P w = .ok () w' ∧ MRep ρ m' w' ∧ Evo ρ m w ρ m' w':=by
 obtain ⟨cs,h1,h2,rfl⟩:=stCells_inv h
 have:=MRep.storeCells (P:=P) (o:=a.off) vs vs' 0 cs m w hm h1 (by omega) hv
 simpa [toR] using this
theorem storeVar_run {a:Addr} {v':Value} {w:World} (ht:TyOk P T t) (hsz:v'.cells.size = (T t).size):(storeVar t a v').run P w = (Go.storeCells a v'.cells.toList).run P w:=by
 unfold storeVar
 simp [ht.size w,hsz]
theorem cells_one' {v:Value} (h:v.oneCell' = true):v.cells = #[v]:=by
 cases v <;> first | rfl | simp [Value.oneCell'] at h
def CL (T:TT) (t:Nat) (cs:List Value):Prop:=cs.length = (T t).size ∨ (agg? (T t).d = false ∧ cs.length = 1)
theorem cellsT_sound {v v':Value} {ρ:Rn} {L:Nat} {K:List Value → Option R} (h:cellsT T t v K = some r) (hv:VR ρ L v v') :
 (T t).d ≠ .other ∧ ∃ cs cs',K cs = some r ∧ VRs ρ L cs cs' ∧ v'.cells.toList = cs' ∧ CL T t cs:=by
 have one:∀ (hK:K [v] = some r) (h1:isOne v = true) (ha:agg? (T t).d = false),∃ cs cs',K cs = some r ∧ VRs ρ L cs cs' ∧ v'.cells.toList = cs' ∧ CL T t cs:=by
  intro hK h1 ha
  refine ⟨[v],[v'],hK,.cons hv h1 .nil,?_,.inr ⟨ha,rfl⟩⟩
  rw [cells_one' (by rw [← hv.one];exact h1)]
 have hagg:∀ (ha:agg? (T t).d = true) (cs:Array Value) (hvc:v = .agg cs) (h9:(bif Nat.beq cs.toList.length (T t).size then K cs.toList else none) = some r),
  ∃ cs cs',K cs = some r ∧ VRs ρ L cs cs' ∧ v'.cells.toList = cs' ∧ CL T t cs:=by
  intro ha cs hvc h9
  subst hvc
  cases hb:Nat.beq cs.toList.length (T t).size with
  | false => rw [hb] at h9;simp at h9
  | true =>
   rw [hb] at h9
   obtain ⟨cs',rfl,h2⟩:=hv.agg_inv
   exact ⟨_,cs',h9,h2,rfl,.inl (Nat.eq_of_beq_eq_true hb)⟩
 unfold cellsT at h
 cases hd:(T t).d <;> simp only [hd] at h
 case other => simp at h
 case struct fs =>
  cases v <;> simp only [reduceCtorEq] at h
  exact ⟨by simp,by exact hagg (by rw [hd];rfl) _ rfl h⟩
 case array a b =>
  cases v <;> simp only [reduceCtorEq] at h
  exact ⟨by simp,by exact hagg (by rw [hd];rfl) _ rfl h⟩
 case iface =>
  cases h1:isOne v with
  | false => rw [h1] at h;simp at h
  | true => rw [h1] at h;exact ⟨by simp,by exact one h h1 (by rw [hd];rfl)⟩
 case fn =>
  cases h1:isOne v with
  | false => rw [h1] at h;simp at h
  | true => rw [h1] at h;exact ⟨by simp,by exact one h h1 (by rw [hd];rfl)⟩
 all_goals
  refine ⟨by simp,?_⟩
  cases v <;> simp only [reduceCtorEq] at h <;> exact one h rfl (by rw [hd];rfl)
theorem stT_eq (m:Mem) (a:Addr) (v:Value) (K:Mem → Option R):stT T t m a v K = cellsT T t v fun cs => match agg? (T t).d with
 | true => (stCells m a cs).bind K
 | false => match cs with | [x] => (st m a x).bind K | _ => none:=by
 unfold stT cellsT
 cases hd:(T t).d <;> simp only [agg?] <;> cases v <;> rfl
theorem stT_sound (hT:TOk P T) {ρ:Rn} {m:Mem} {w:World} (hm:MRep ρ m w) {a:Addr} {v v':Value} {K:Mem → Option R} (h:stT T t m a v K = some r) (hv:VR ρ m.length v v') :
 ∃ m' w',K m' = some r ∧ (storeVar t (toR ρ a) v').run P w = .ok () w' ∧ MRep ρ m' w' ∧ Evo ρ m w ρ m' w':=by
 rw [stT_eq] at h
 obtain ⟨hne,cs,cs',h1,h2,h3,h4⟩:=cellsT_sound h hv
 have ht:=hT t hne
 have hsz:v'.cells.size = (T t).size:=by
  rw [← Array.length_toList,h3,← h2.len]
  rcases h4 with h4 | ⟨h4,h5⟩
  ·exact h4
  ·rw [h5,ht.one h4]
 rw [storeVar_run ht hsz,h3]
 cases ha:agg? (T t).d with
 | true =>
  rw [ha] at h1
  simp only [Option.bind_eq_some_iff] at h1
  obtain ⟨m',h5,h6⟩:=h1
  obtain ⟨w',h7,h8,h9⟩:=stCells_sound (P:=P) hm h5 h2
  exact ⟨m',w',h6,h7,h8,h9⟩
 | false =>
  obtain ⟨x,rfl⟩:∃ x,cs = [x]:=by
   have h9:cs.length = 1:=by
    rcases h4 with h4 | ⟨h4,h5⟩
    ·rw [h4,ht.one ha]
    ·exact h5
   match cs,h9 with
   | [x],_ => exact ⟨x,rfl⟩
  ·simp only [ha,Option.bind_eq_some_iff] at h1
   obtain ⟨m',h5,h6⟩:=h1
   have h7:stCells m a [x] = some m':=by
    obtain ⟨c,e1,e2,rfl⟩:=st_inv h5
    unfold stCells setCells
    rw [e1]
    simp only [Option.bind_some,List.length_cons,List.length_nil]
    rw [if_pos (by omega)]
    simp only [Option.bind_some,Option.some.injEq]
    congr 2
    rw [List.set_eq_take_append_cons_drop,if_pos e2]
    simp
   obtain ⟨w',h7,h8,h9⟩:=stCells_sound (P:=P) hm h7 h2
   exact ⟨m',w',h6,h7,h8,h9⟩
end
end Go.Mx
