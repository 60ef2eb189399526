import Derived.Test.YtchonnaoojpdoaaGreatMxTab
import Derived.Conc.AtomicLaws
set_option linter.unusedVariables false
set_option linter.unusedSimpArgs false
namespace Go.Mx
theorem callFunc_ext {P:Program} {f:FuncId} {fn:Func} {ext:Array Value → Sem Value} (h1:P.funcs[f]? = some fn) (h2:(fn.name == "runtime.NumGoroutine") = false) (h3:fn.body.isNone = true) (h4:Extern.findNext fn = none) (h5:Extern.find fn = some ext)
 (args:Array Value) (w:World):(callFunc f args).run P w = ((ext args).run P w).andThen fun v w' => .ok (.value v) w':=by
 have h2':fn.name ≠ "runtime.NumGoroutine" := by simpa using h2
 have h3':fn.body = none:=by simpa using h3
 simp [callFunc,h1,h2',h3',h4,h5]
def atAdd (m:Mem) (p:Option Addr) (n:Int):Option (Int × Mem):=p.bind fun a => (ldInt .i64 m a).bind fun t => (st m a (.int .i64 (IntKind.wrap .i64 (t + n)))).bind fun m' => some (IntKind.wrap .i64 (t + n),m')
def atLoad (m:Mem) (p:Option Addr):Option (Int × Mem):=p.bind fun a => (ldInt .i64 m a).bind fun t => some (t,m)
def atStore (m:Mem) (p:Option Addr) (n:Int):Option Mem:=p.bind fun a => st m a (.int .i64 n)
theorem ldInt_inv {k:IntKind} {m:Mem} {a:Addr} {t:Int} (h:ldInt k m a = some t):∃ cs,m.cells a.block = some cs ∧ cs[a.off]? = some (.int k t):=by
 unfold ldInt at h
 obtain ⟨cs,h1,h2⟩:=Option.bind_eq_some_iff.1 h
 exact ⟨cs,h1,cInt_of h2⟩
section
variable {P:Program} {f:FuncId} {fn:Func} (h1:P.funcs[f]? = some fn) (h2:(fn.name == "runtime.NumGoroutine") = false) (h3:fn.body.isNone = true) (h4:Extern.findNext fn = none)
include h1 h2 h3 h4
theorem atLoad_ok (h5:Extern.find fn = some (Extern.Atomic.loadT (.int .i64))) {m:Mem} {p:Option Addr} {r:Int × Mem} (h:atLoad m p = some r):CallP P f [.pointer p] m fun v m' => v = .int .i64 r.1 ∧ m' = r.2:=by
 intro ρ w args hm hl ha
 rw [callFunc_ext h1 h2 h3 h4 h5]
 unfold atLoad at h
 obtain ⟨a,rfl,h6⟩:=Option.bind_eq_some_iff.1 h
 obtain ⟨t,ht,h7⟩:=Option.bind_eq_some_iff.1 h6
 have h8:=Option.some.inj h7
 subst h8
 obtain ⟨v,e1,e2⟩:=ha 0 _ rfl
 match args,hl with
 | [x],_ =>
  simp at e1;subst e1
  obtain ⟨rfl,hlt⟩:=e2.ptr_inv
  obtain ⟨cs,c1,c2⟩:=ldInt_inv ht
  obtain ⟨v',d1,d2⟩:=hm.cell c1 c2
  have d3:=d2.int_inv
  subst d3
  have hrun:(Extern.Atomic.loadT (.int .i64) #[.pointer (some (toR ρ a))]).run P w = .ok (.int .i64 t) w:=by
   rw [show ∀ (t:Extern.Atomic.T) (x:Value),Extern.Atomic.loadT t #[x] = (do Extern.Atomic.read t (← asAddr x)) from fun _ _ => rfl]
   simp [Extern.Atomic.read,asAddr,run_load,d1]
  rw [hrun]
  exact ⟨_,m,ρ,⟨rfl,rfl⟩,.int _ _,hm,Evo.refl _ _ _⟩
theorem atAdd_ok (h5:Extern.find fn = some (Extern.Atomic.update (Op.intArith .add) .i64 true)) {m:Mem} {p:Option Addr} {n:Int} {r:Int × Mem} (h:atAdd m p n = some r):CallP P f [.pointer p,.int .i64 n] m fun v m' => v = .int .i64 r.1 ∧ m' = r.2:=by
 intro ρ w args hm hl ha
 rw [callFunc_ext h1 h2 h3 h4 h5]
 unfold atAdd at h
 obtain ⟨a,rfl,h6⟩:=Option.bind_eq_some_iff.1 h
 obtain ⟨t,ht,h7⟩:=Option.bind_eq_some_iff.1 h6
 obtain ⟨m1,hst,h8⟩:=Option.bind_eq_some_iff.1 h7
 have h9:=Option.some.inj h8
 subst h9
 obtain ⟨v,e1,e2⟩:=ha 0 _ rfl
 obtain ⟨u,e3,e4⟩:=ha 1 _ rfl
 match args,hl with
 | [x,y],_ =>
  simp at e1 e3;subst e1;subst e3
  obtain ⟨rfl,hlt⟩:=e2.ptr_inv
  have e5:=e4.int_inv
  subst e5
  obtain ⟨cs,c1,c2⟩:=ldInt_inv ht
  obtain ⟨v',d1,d2⟩:=hm.cell c1 c2
  have d3:=d2.int_inv
  subst d3
  obtain ⟨cs',s1,s2,s3⟩:=st_inv hst
  subst s3
  obtain ⟨old,b1,b2,b3,b4⟩:=hm.setCell s1 s2 (VR.int (ρ:=ρ) (L:=m.length) .i64 (IntKind.wrap .i64 (t + n))) rfl
  have hsh:toR ρ a = ⟨ρ.blk a.block,ρ.sh a.block + a.off,none⟩:=rfl
  rw [hsh] at d1
  have hrun:(Extern.Atomic.update (Op.intArith .add) .i64 true #[.pointer (some (toR ρ a)),.int .i64 n]).run P w = .ok (.int .i64 (IntKind.wrap .i64 (t + n))) (w.setCell ⟨ρ.blk a.block,ρ.sh a.block + a.off,none⟩ (.int .i64 (IntKind.wrap .i64 (t + n)))):=by
   rw [hsh,show ∀ (op:IntKind → Int → Int → Sem Value) (k:IntKind) (b:Bool) (x y:Value),Extern.Atomic.update op k b #[x,y] = (do
    let a ← asAddr x
    let old ← Extern.Atomic.read (.int k) a
    let new ← op k (← asInt old) (← asInt y)
    store a new .atomic
    pure (if b then new else old)) from fun _ _ _ _ _ => rfl]
   simp [Extern.Atomic.read,asAddr,asInt,asIntOf,run_load,d1,Op.intArith,run_store _ _ _ _ _ (show (Value.int .i64 (IntKind.wrap .i64 (t + n))).oneCell' = true from rfl),b2]
  rw [hrun]
  exact ⟨_,_,ρ,⟨rfl,rfl⟩,.int _ _,b3,b4⟩
theorem atStore_ok (h5:Extern.find fn = some Extern.Atomic.storeT) {m m1:Mem} {p:Option Addr} {n:Int} (h:atStore m p n = some m1):CallP P f [.pointer p,.int .i64 n] m fun v m' => v = .tuple ⟨[]⟩ ∧ m' = m1:=by
 intro ρ w args hm hl ha
 rw [callFunc_ext h1 h2 h3 h4 h5]
 unfold atStore at h
 obtain ⟨a,rfl,hst⟩:=Option.bind_eq_some_iff.1 h
 obtain ⟨v,e1,e2⟩:=ha 0 _ rfl
 obtain ⟨u,e3,e4⟩:=ha 1 _ rfl
 match args,hl with
 | [x,y],_ =>
  simp at e1 e3;subst e1;subst e3
  obtain ⟨rfl,hlt⟩:=e2.ptr_inv
  have e5:=e4.int_inv
  subst e5
  obtain ⟨cs',s1,s2,s3⟩:=st_inv hst
  subst s3
  obtain ⟨old,b1,b2,b3,b4⟩:=hm.setCell s1 s2 (VR.int (ρ:=ρ) (L:=m.length) .i64 n) rfl
  have hsh:toR ρ a = ⟨ρ.blk a.block,ρ.sh a.block + a.off,none⟩:=rfl
  have hrun:(Extern.Atomic.storeT #[.pointer (some (toR ρ a)),.int .i64 n]).run P w = .ok (.tuple #[]) (w.setCell ⟨ρ.blk a.block,ρ.sh a.block + a.off,none⟩ (.int .i64 n)):=by
   rw [hsh,show ∀ x y:Value,Extern.Atomic.storeT #[x,y] = (do store (← asAddr x) y .atomic;pure Extern.Atomic.none_) from fun _ _ => rfl]
   have h1:(Value.int .i64 n).oneCell' = true:=rfl
   simp [Extern.Atomic.none_,asAddr,run_store,b1,b2,h1]
  rw [hrun]
  exact ⟨_,_,ρ,⟨rfl,rfl⟩,.tuple _ _ rfl (by simp),b3,b4⟩
end
end Go.Mx
