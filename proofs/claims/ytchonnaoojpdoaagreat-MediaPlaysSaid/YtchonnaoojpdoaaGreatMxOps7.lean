import Derived.Test.YtchonnaoojpdoaaGreatMxTy
import Derived.Tactics
import Derived.BigFrame
import Derived.Laws.StructEq
import Derived.ChangeKeysEq
import Derived.Laws.MakeOwn
import Derived.Laws.Append
import Derived.Laws.Slices
set_option linter.unusedVariables false
set_option linter.unusedSimpArgs false
namespace Go.Mx
def EnvR (ρ:Rn) (L:Nat) (e:Env) (tmps:Array Value):Prop:=∀ t v,lk t e = some v → t < tmps.size ∧ VR ρ L v (tmps.getD t undef)
theorem EnvR.mono {ρ ρ':Rn} {L L':Nat} (ha:∀ n,n < L → ρ'.Same ρ n) (hl:L ≤ L') {e:Env} {tmps:Array Value} (h:EnvR ρ L e tmps):EnvR ρ' L' e tmps :=
 fun t v ht => ⟨(h t v ht).1,(h t v ht).2.mono ha hl⟩
theorem opnd_sound {ρ:Rn} {L:Nat} {e:Env} {a:Act} (he:EnvR ρ L e a.tmps) {x:Operand} {v:Value} (h:opnd e x = some v):VR ρ L v (a.eval x):=by
 cases x with
 | tmp t => exact (he t v h).2
 | const c =>
  simp only [opnd] at h
  cases hp:plainV c with
  | false => simp [hp] at h
  | true => simp [hp] at h;subst h;exact VR.plain hp
 | global g => simp [opnd] at h
 | func f => simp [opnd] at h;subst h;exact .fn f [] [] [] [] rfl rfl (by simp) (by simp)
theorem opnds_sound {ρ:Rn} {L:Nat} {e:Env} {a:Act} (he:EnvR ρ L e a.tmps):∀ {xs:List Operand} {vs:List Value},opnds e xs = some vs → vs.length = xs.length ∧ ∀ (i:Nat) v,vs[i]? = some v → ∃ x,xs[i]? = some x ∧ VR ρ L v (a.eval x)
 | [],vs,h => by simp [opnds] at h;subst h;simp
 | x :: xs,vs,h => by
  simp only [opnds] at h
  split at h
  ·rename_i v vs' h1 h2
   simp at h;subst h
   obtain ⟨h3,h4⟩:=opnds_sound he h2
   refine ⟨by simp [h3],fun i u hi => ?_⟩
   cases i with
   | zero => simp at hi;subst hi;exact ⟨x,by simp,opnd_sound he h1⟩
   | succ i => simp at hi;simpa using h4 i u hi
  ·simp at h
def Did (P:Program) (a:Act) (o:Oper) (ρ:Rn) (m:Mem) (w:World) (v:Value) (m':Mem):Prop :=
 ∃ v' w' ρ',((execOp a.eval o).run P w = .ok (.value v') w' ∨ ((execOp a.eval o).run P w = .ok .skip w' ∧ v' = undef)) ∧ VR ρ' m'.length v v' ∧ MRep ρ' m' w' ∧ Evo ρ m w ρ' m' w'
theorem Did.here {P a o ρ m w v v'} (hm:MRep ρ m w) (h:(execOp a.eval o).run P w = .ok (.value v') w) (hv:VR ρ m.length v v'):Did P a o ρ m w v m :=
 ⟨v',w,ρ,.inl h,hv,hm,Evo.refl _ _ _⟩
structure St (P:Program) (T:TT) (ρ:Rn) (e:Env) (m:Mem) (a:Act) (w:World):Prop where
 tok:TOk P T
 env:EnvR ρ m.length e a.tmps
 mem:MRep ρ m w
section
variable {P:Program} {R:Type} {C:Ctx R} {ρ:Rn} {e:Env} {m:Mem} {a:Act} {w:World} {r:R} {K:Value → Mem → Option R}
 {dst:Option Tmp} {ty:TypeId} {pos:String} {after:Array Edge} {guard:Option (Nat × Bool)}
theorem VR.int_inv {ρ L k n v'} (h:VR ρ L (.int k n) v'):v' = .int k n:=by cases h;rfl
theorem VR.bool_inv {ρ L b v'} (h:VR ρ L (.bool b) v'):v' = .bool b:=by cases h;rfl
theorem VR.str_inv {ρ L s v'} (h:VR ρ L (.string s) v'):v' = .string s:=by cases h;rfl
theorem VR.ptr_inv {ρ L x v'} (h:VR ρ L (.pointer (some x)) v'):v' = .pointer (some (toR ρ x)) ∧ x.block < L:=by cases h;exact ⟨rfl,by assumption⟩
theorem VR.sl_inv {ρ L p n c v'} (h:VR ρ L (.slice p n c) v'):(p = none ∧ n = 0 ∧ c = 0 ∧ v' = .slice none 0 0) ∨ ∃ x x' c',p = some x ∧ v' = .slice (some x') n c' ∧ x.block < L ∧ SlOk ρ x x' n c c':=by
 cases h with
 | sl0 => exact .inl ⟨rfl,rfl,rfl,rfl⟩
 | sl x x' n c c' h1 h2 => exact .inr ⟨x,x',c',rfl,rfl,h1,h2⟩
theorem VR.tuple_inv {ρ L} {cs:Array Value} {v':Value} (h:VR ρ L (.tuple cs) v'):∃ cs',v' = .tuple ⟨cs'⟩ ∧ cs.toList.length = cs'.length ∧ ∀ (i:Nat) v,cs.toList[i]? = some v → ∃ u,cs'[i]? = some u ∧ VR ρ L v u:=by
 cases h with
 | tuple cs cs' h1 h3 =>
  refine ⟨cs',rfl,h1,fun i v hi => ?_⟩
  have hlt:i < cs.length:=by
   rcases Nat.lt_or_ge i cs.length with h | h
   ·exact h
   ·simp [List.getElem?_eq_none h] at hi
  have h4:=h3 i hlt
  rw [getD_of_get? hi] at h4
  exact ⟨cs'.getD i undef,by simp [List.getD,(show i < cs'.length by omega)],h4⟩
theorem op_move (hs:St P C.T ρ e m a w) {x:Operand} (h:oper C (.move x) e m K = some r):∃ v m',K v m' = some r ∧ Did P a ⟨dst,.move x,ty,pos,after,guard⟩ ρ m w v m':=by
 simp only [oper] at h
 split at h
 ·rename_i v hv
  exact ⟨v,m,h,.here hs.mem rfl (opnd_sound hs.env hv)⟩
 ·simp at h
theorem op_assign (hs:St P C.T ρ e m a w) {x:Operand} (h:oper C (.assign x) e m K = some r):∃ v m',K v m' = some r ∧ Did P a ⟨dst,.assign x,ty,pos,after,guard⟩ ρ m w v m':=by
 simp only [oper] at h
 split at h
 ·rename_i v hv
  exact ⟨v,m,h,.here hs.mem rfl (opnd_sound hs.env hv)⟩
 ·simp at h
theorem op_pick (hs:St P C.T ρ e m a w) {x y z:Operand} (h:oper C (.pick x y z) e m K = some r):∃ v m',K v m' = some r ∧ Did P a ⟨dst,.pick x y z,ty,pos,after,guard⟩ ρ m w v m':=by
 simp only [oper] at h
 split at h
 ·rename_i t ht
  have h1:=(opnd_sound hs.env ht).bool_inv
  cases t with
  | true =>
   simp only [cond_true] at h
   split at h
   ·rename_i v hv
    refine ⟨v,m,h,.here hs.mem (v':=a.eval y) ?_ (opnd_sound hs.env hv)⟩
    simp [execOp,h1,asBool]
   ·simp at h
  | false =>
   simp only [cond_false] at h
   split at h
   ·rename_i v hv
    refine ⟨v,m,h,.here hs.mem (v':=a.eval z) ?_ (opnd_sound hs.env hv)⟩
    simp [execOp,h1,asBool]
   ·simp at h
 ·simp at h
theorem plain_one {v:Value} (h:plainV v = true):v.oneCell' = true:=by
 cases v <;> simp [plainV,Value.oneCell'] at h ⊢
theorem new_obj {cs real:List Value} (hm:MRep ρ m w) (hcs:VRs ρ m.length cs real) (elem:TypeId) :
 ∃ ρ',MRep ρ' (m ++ [.live cs]) { w with heap:=w.heap.push (.cells ⟨real⟩ elem) } ∧ Evo ρ m w ρ' (m ++ [.live cs]) { w with heap:=w.heap.push (.cells ⟨real⟩ elem) } ∧ (ρ'.blk m.length = w.heap.size ∧ ρ'.sh m.length = 0) ∧ ρ'.sz m.length = real.length:=by
 have hl:=hcs.len
 have h1:=MRep.alloc hm (cs:=cs) (real:=real) (elem:=elem) (fr:=(0,0)) (by rw [hl,List.take_length];exact hcs) (by omega) (by
  intro v hv
  obtain ⟨i,hi,rfl⟩:=List.mem_iff_getElem.1 hv
  have hi':i < cs.length:=by omega
  obtain ⟨v',h3,h4⟩:=hcs.all i cs[i] (by simp [hi'])
  have:v' = real[i]:=by
   rw [List.getElem?_eq_getElem hi] at h3;simp at h3;exact h3.symm
  rw [← this,← h4.one]
  exact hcs.one _ (List.getElem_mem hi')) (by intro j _;simp) (w':={ w with heap:=w.heap.push (.cells ⟨real⟩ elem) }) rfl rfl rfl rfl
 exact ⟨_,h1.1,h1.2,⟨by simp [Rn.upd],by simp [Rn.upd]⟩,by simp [Rn.upd]⟩
theorem VR.new {ρ':Rn} {m:Mem} {cs:List Value} {w:World} (hb:ρ'.blk m.length = w.heap.size ∧ ρ'.sh m.length = 0):VR ρ' (m ++ [MObj.live cs]).length (ptrTo m.length) (.pointer (some ⟨w.heap.size,0,none⟩)):=by
 have:=VR.ptr (ρ:=ρ') (L:=(m ++ [MObj.live cs]).length) ⟨m.length,0,none⟩ (by simp)
 simpa [toR,hb.1,hb.2,ptrTo] using this
theorem op_alloc (hs:St P C.T ρ e m a w) {t:TypeId} (h:oper C (.alloc t) e m K = some r):∃ v m',K v m' = some r ∧ Did P a ⟨dst,.alloc t,ty,pos,after,guard⟩ ρ m w v m':=by
 have hne:(C.T t).d ≠ .other:=by
  intro hd
  simp only [oper,hd] at h
  simp at h
 have ht:=hs.tok t hne
 have h2:K (ptrTo m.length) (m ++ [.live (C.T t).zero]) = some r:=by
  simp only [oper] at h
  exact h
 obtain ⟨z,hz,hz2⟩:=ht.zero w
 obtain ⟨ρ',h3,h4,h5,_⟩:=new_obj hs.mem (VRs.plain (ρ:=ρ) (L:=m.length) ht.plain) t
 refine ⟨_,_,h2,.pointer (some ⟨w.heap.size,0,none⟩),{ w with heap:=w.heap.push (.cells ⟨(C.T t).zero⟩ t) },ρ',.inl ?_,VR.new h5,h3,h4⟩
 simp [execOp,Instr.alloc,hz,newVar,newRow,← hz2]
theorem op_box (hs:St P C.T ρ e m a w) {t:TypeId} {x:Operand} (h:oper C (.box t x) e m K = some r):∃ v m',K v m' = some r ∧ Did P a ⟨dst,.box t x,ty,pos,after,guard⟩ ρ m w v m':=by
 simp only [oper] at h
 split at h
 ·rename_i v hv
  obtain ⟨hne,cs,cs',h1,h2,h3,_⟩:=cellsT_sound h (opnd_sound hs.env hv)
  obtain ⟨ρ',h4,h5,h6,_⟩:=new_obj hs.mem h2 t
  refine ⟨_,_,h1,.pointer (some ⟨w.heap.size,0,none⟩),{ w with heap:=w.heap.push (.cells ⟨cs'⟩ t) },ρ',.inl ?_,VR.new h6,h4,h5⟩
  simp [execOp,Instr.box,newVar,newRow,← h3]
 ·simp at h
theorem op_load (hs:St P C.T ρ e m a w) {t:TypeId} {x:Operand} (h:oper C (.load t x) e m K = some r):∃ v m',K v m' = some r ∧ Did P a ⟨dst,.load t x,ty,pos,after,guard⟩ ρ m w v m':=by
 simp only [oper] at h
 split at h
 ·rename_i p hp
  have hp':=(opnd_sound hs.env hp).ptr_inv.1
  obtain ⟨v,v',h1,h2,h3⟩:=ldT_sound hs.tok hs.mem h
  refine ⟨v,m,h1,.here hs.mem (v':=v') ?_ h2⟩
  simp [execOp,Instr.loadAt,hp',Instr.sureAddr,h3]
 ·simp at h
theorem op_store (hs:St P C.T ρ e m a w) {t:TypeId} {x y:Operand} (h:oper C (.store t x y) e m K = some r):∃ v m',K v m' = some r ∧ Did P a ⟨dst,.store t x y,ty,pos,after,guard⟩ ρ m w v m':=by
 simp only [oper] at h
 split at h
 ·rename_i p v hp hv
  have hp':=(opnd_sound hs.env hp).ptr_inv.1
  obtain ⟨m',w',h1,h2,h3,h4⟩:=stT_sound hs.tok hs.mem h (opnd_sound hs.env hv)
  refine ⟨_,m',h1,undef,w',ρ,.inr ⟨?_,rfl⟩,?_,h3,h4⟩
  ·simp [execOp,Instr.storeAt,hp',Instr.sureAddr,h2]
  ·exact .tuple [] [] rfl (by simp)
 ·simp at h
theorem op_nilCheck (hs:St P C.T ρ e m a w) {x:Operand} (h:oper C (.nilCheck x) e m K = some r):∃ v m',K v m' = some r ∧ Did P a ⟨dst,.nilCheck x,ty,pos,after,guard⟩ ρ m w v m':=by
 simp only [oper] at h
 split at h
 ·rename_i p hp
  simp only [Option.bind_eq_some_iff] at h
  obtain ⟨ad,rfl,h1⟩:=h
  have hp':=opnd_sound hs.env hp
  refine ⟨_,m,h1,.here hs.mem (v':=a.eval x) ?_ hp'⟩
  rw [hp'.ptr_inv.1]
  simp [execOp,hp'.ptr_inv.1]
 ·simp at h
theorem VR.plus {ρ L} {x:Addr} (n:Nat) (h:x.block < L):VR ρ L (.pointer (some (plus x n))) (.pointer (some ((toR ρ x).add n))):=by
 have:=VR.ptr (ρ:=ρ) (L:=L) (Mx.plus x n) h
 simpa [toR,add_none,Mx.plus,Nat.add_assoc] using this
theorem op_fieldAddr (hs:St P C.T ρ e m a w) {t:TypeId} {x:Operand} {f:Nat} (h:oper C (.fieldAddr t x f) e m K = some r):∃ v m',K v m' = some r ∧ Did P a ⟨dst,.fieldAddr t x f,ty,pos,after,guard⟩ ρ m w v m':=by
 simp only [oper] at h
 split at h
 ·rename_i fs p hd hp
  obtain ⟨hp',hlt⟩:=(opnd_sound hs.env hp).ptr_inv
  split at h
  ·rename_i ft off hf
   have ht:=hs.tok t (by rw [hd];simp)
   have hdd:=ht.desc
   rw [hd] at hdd
   obtain ⟨fields,hu,hmap,hall⟩:=hdd
   rw [← hmap,List.getElem?_map] at hf
   obtain ⟨fd,hfd,hfd2⟩:=Option.map_eq_some_iff.1 hf
   simp only [Prod.mk.injEq] at hfd2
   obtain ⟨rfl,rfl⟩:=hfd2
   have hfm:(fd.type,fd.offset) ∈ fs:=by
    rw [← hmap]
    exact List.mem_map.2 ⟨fd,List.mem_of_getElem? hfd,rfl⟩
   have hn1:=hall _ hfm
   have hn2:(C.T fd.type).size ≠ 0:=by
    intro h0
    rw [h0] at h
    simp at h
   have hb0:Nat.beq (C.T fd.type).size 0 = false:=by
    cases hb:Nat.beq (C.T fd.type).size 0 with
    | false => rfl
    | true => exact absurd (Nat.eq_of_beq_eq_true hb) hn2
   rw [hb0] at h
   simp only [cond_false] at h
   refine ⟨_,m,h,.here hs.mem (v':=.pointer (some ((toR ρ p).add fd.offset))) ?_ (VR.plus _ hlt)⟩
   have hfa:fields[f]? = some fd:=by simpa using hfd
   have hsz:=(hs.tok fd.type hn1).size w
   simp [execOp,Instr.fieldAt,under w hu,hfa,hp',Instr.sureAddr,fieldPlace,hsz,hn2]
  ·simp at h
 ·simp at h
theorem op_field (hs:St P C.T ρ e m a w) {t:TypeId} {x:Operand} {f:Nat} (h:oper C (.field t x f) e m K = some r):∃ v m',K v m' = some r ∧ Did P a ⟨dst,.field t x f,ty,pos,after,guard⟩ ρ m w v m':=by
 simp only [oper] at h
 split at h
 ·rename_i fs p hd hp
  obtain ⟨cs',hp',hcs⟩:=(opnd_sound hs.env hp).agg_inv
  split at h
  ·rename_i ft off hf
   have ht:=hs.tok t (by rw [hd];simp)
   have hdd:=ht.desc
   rw [hd] at hdd
   obtain ⟨fields,hu,hmap,hall⟩:=hdd
   rw [← hmap,List.getElem?_map] at hf
   obtain ⟨fd,hfd,hfd2⟩:=Option.map_eq_some_iff.1 hf
   simp only [Prod.mk.injEq] at hfd2
   obtain ⟨rfl,rfl⟩:=hfd2
   obtain ⟨v,v',h1,h2,h3⟩:=getT_sound hs.tok h hcs w
   refine ⟨v,m,h1,.here hs.mem (v':=v') ?_ h2⟩
   have hfa:fields[f]? = some fd:=by simpa using hfd
   simp [execOp,Instr.field,under w hu,hfa,hp',asAgg,h3]
  ·simp at h
 ·simp at h
theorem range_of {i:Int} {n:Nat} (h:inRange i n = true):0 ≤ i ∧ i < n:=by simpa [inRange] using h
theorem op_indexAddr (hs:St P C.T ρ e m a w) {t:TypeId} {x ix:Operand} (h:oper C (.indexAddr t x ix) e m K = some r):∃ v m',K v m' = some r ∧ Did P a ⟨dst,.indexAddr t x ix,ty,pos,after,guard⟩ ρ m w v m':=by
 simp only [oper] at h
 split at h
 ·rename_i n el p k i hd hp hi
  obtain ⟨hp',hlt⟩:=(opnd_sound hs.env hp).ptr_inv
  have hi':=(opnd_sound hs.env hi).int_inv
  have ht:=hs.tok t (by rw [hd];simp)
  have hdd:=ht.desc
  rw [hd] at hdd
  cases hr:inRange i n with
  | false => simp [hr] at h
  | true =>
   simp only [hr,cond_true] at h
   have hsz:=(hs.tok el hdd.2).size w
   refine ⟨_,m,h,.here hs.mem (v':=.pointer (some ((toR ρ p).add (i.toNat * (C.T el).size)))) ?_ (VR.plus _ hlt)⟩
   have hr':=range_of hr
   simp [execOp,Instr.indexAt,hi',asIntOf,under w hdd.1,hp',Instr.sureAddr,hr',hsz]
 ·rename_i el p n c k i hd hp hi
  have hi':=(opnd_sound hs.env hi).int_inv
  have ht:=hs.tok t (by rw [hd];simp)
  have hdd:=ht.desc
  rw [hd] at hdd
  cases hr:inRange i n with
  | false => simp [hr] at h
  | true =>
   simp only [hr,cond_true,Option.bind_eq_some_iff] at h
   obtain ⟨ad,rfl,h⟩:=h
   have hr':=range_of hr
   have hsz:=(hs.tok el hdd.2).size w
   rcases (opnd_sound hs.env hp).sl_inv with ⟨h1,_⟩ | ⟨x1,x',c',h1,h2,h3,h4⟩
   ·simp at h1
   ·simp only [Option.some.injEq] at h1
    subst h1
    rcases h4.1 with h5 | h5
    ·have:=h4.2.1;omega
    ·subst h5
     refine ⟨_,m,h,.here hs.mem (v':=.pointer (some ((toR ρ ad).add (i.toNat * (C.T el).size)))) ?_ (VR.plus _ h3)⟩
     simp [execOp,Instr.indexAt,hi',asIntOf,under w hdd.1,h2,hr',hsz]
 ·simp at h
end
end Go.Mx
set_option linter.unusedVariables false
set_option linter.unusedSimpArgs false
namespace Go.Mx
section
variable {P:Program} {R:Type} {C:Ctx R} {ρ:Rn} {e:Env} {m:Mem} {a:Act} {w:World} {r:R} {K:Value → Mem → Option R}
 {dst:Option Tmp} {ty:TypeId} {pos:String} {after:Array Edge} {guard:Option (Nat × Bool)}
theorem op_index (hs:St P C.T ρ e m a w) {t:TypeId} {x ix:Operand} (h:oper C (.index t x ix) e m K = some r):∃ v m',K v m' = some r ∧ Did P a ⟨dst,.index t x ix,ty,pos,after,guard⟩ ρ m w v m':=by
 simp only [oper] at h
 split at h
 ·rename_i n el cs k i hd hp hi
  obtain ⟨cs',hp',hcs⟩:=(opnd_sound hs.env hp).agg_inv
  have hi':=(opnd_sound hs.env hi).int_inv
  have ht:=hs.tok t (by rw [hd];simp)
  have hdd:=ht.desc
  rw [hd] at hdd
  cases hr:inRange i n with
  | false => simp [hr] at h
  | true =>
   simp only [hr,cond_true] at h
   have hsz:=(hs.tok el hdd.2).size w
   obtain ⟨v,v',h1,h2,h3⟩:=getT_sound hs.tok h hcs w
   refine ⟨v,m,h1,.here hs.mem (v':=v') ?_ h2⟩
   have hr':=range_of hr
   simp [execOp,Instr.index,hi',asIntOf,under w hdd.1,hp',hr',hsz,h3]
 ·rename_i s k i hd hp hi
  have hp':=(opnd_sound hs.env hp).str_inv
  have hi':=(opnd_sound hs.env hi).int_inv
  have ht:=hs.tok t (by rw [hd];simp)
  have hdd:=ht.desc
  rw [hd] at hdd
  cases hr:inRange i s.size with
  | false => simp [hr] at h
  | true =>
   simp only [hr,cond_true] at h
   have hr':=range_of hr
   have hlt:i.toNat < s.size:=by omega
   refine ⟨_,m,h,.here hs.mem (v':=.int .u8 ((s.data.toList.getD i.toNat 0).toNat:Nat)) ?_ (.int _ _)⟩
   have e1:s[i.toNat]? = some (s.data.toList.getD i.toNat 0):=by
    rw [getElem?_pos s i.toNat hlt]
    have this:i.toNat < s.data.toList.length:=by simpa using hlt
    have h5:s.data.toList.getD i.toNat 0 = s.data.toList[i.toNat]:=by
     rw [List.getD,List.getElem?_eq_getElem this];rfl
    rw [h5];rfl
   simp only [execOp,Instr.index,hi',asIntOf,hp',Sem.run_bind,Sem.run_pure,Result.andThen_ok,under w hdd,hr',if_true,e1]
 ·simp at h
theorem eqGuard_none (op:BinOp) (t:TypeId) (x y:Operand) (u v:Value) (h:∀ c d,¬ (u = .agg c ∧ v = .agg d)) (h2:¬ (u = .nilIface ∧ v = .nilIface)):(eqGuard op t x y u v).run P w = .ok () w:=by
 unfold eqGuard
 cases op <;> first | rfl | skip
 all_goals
  cases u <;> cases v <;> first | rfl | exact absurd ⟨rfl,rfl⟩ h2 | exact absurd ⟨rfl,rfl⟩ (h _ _)
theorem binI_sound {op:BinOp} {k:IntKind} {x y:Int} {K:Value → Option R} (h:binI op k x y K = some r) (t:TypeId) (hk:k = k) :
 ∃ v,K v = some r ∧ (binOp op t (.int k x) (.int k y)).run P w = .ok v w ∧ ((∃ n,v = .int k n) ∨ ∃ b,v = .bool b):=by
 cases op <;> simp only [binI] at h
 case add => exact ⟨_,h,by simp [binOp,Op.intArith],.inl ⟨_,rfl⟩⟩
 case sub => exact ⟨_,h,by simp [binOp,Op.intArith],.inl ⟨_,rfl⟩⟩
 case mul => exact ⟨_,h,by simp [binOp,Op.intArith],.inl ⟨_,rfl⟩⟩
 case quo =>
  cases hz:isZero y with
  | true => simp [hz] at h
  | false =>
   rw [hz] at h
   have:y ≠ 0:=by simpa [isZero] using hz
   exact ⟨_,h,by simp [binOp,Op.intDiv,this],.inl ⟨_,rfl⟩⟩
 case rem =>
  cases hz:isZero y with
  | true => simp [hz] at h
  | false =>
   rw [hz] at h
   have:y ≠ 0:=by simpa [isZero] using hz
   exact ⟨_,h,by simp [binOp,Op.intDiv,this],.inl ⟨_,rfl⟩⟩
 case and => exact ⟨_,h,by simp [binOp,Op.intBits,bitI],.inl ⟨_,rfl⟩⟩
 case or => exact ⟨_,h,by simp [binOp,Op.intBits,bitI],.inl ⟨_,rfl⟩⟩
 case xor => exact ⟨_,h,by simp [binOp,Op.intBits,bitI],.inl ⟨_,rfl⟩⟩
 case andNot => exact ⟨_,h,by simp [binOp,Op.intBits,bitI],.inl ⟨_,rfl⟩⟩
 case shl =>
  cases hz:decide (y < 0) with
  | true => simp [hz] at h
  | false =>
   rw [hz] at h
   have:¬ y < 0:=by simpa using hz
   exact ⟨_,h,by simp [binOp,Op.shift,this,shlI],.inl ⟨_,rfl⟩⟩
 case shr =>
  cases hz:decide (y < 0) with
  | true => simp [hz] at h
  | false =>
   rw [hz] at h
   have:¬ y < 0:=by simpa using hz
   exact ⟨_,h,by simp [binOp,Op.shift,this,shrI],.inl ⟨_,rfl⟩⟩
 case eql => exact ⟨_,h,by simp [binOp,Op.intCmp],.inr ⟨_,rfl⟩⟩
 case neq => exact ⟨_,h,by simp [binOp,Op.intCmp],.inr ⟨_,rfl⟩⟩
 case lss => exact ⟨_,h,by simp [binOp,Op.intCmp],.inr ⟨_,rfl⟩⟩
 case leq => exact ⟨_,h,by simp [binOp,Op.intCmp],.inr ⟨_,rfl⟩⟩
 case gtr => exact ⟨_,h,by simp [binOp,Op.intCmp],.inr ⟨_,rfl⟩⟩
 case geq => exact ⟨_,h,by simp [binOp,Op.intCmp],.inr ⟨_,rfl⟩⟩
theorem shift_sound {op:BinOp} (hop:op = .shl ∨ op = .shr) {k k':IntKind} {x y:Int} {K:Value → Option R} (h:binI op k x y K = some r) (t:TypeId) :
 ∃ v,K v = some r ∧ (binOp op t (.int k x) (.int k' y)).run P w = .ok v w ∧ ((∃ n,v = .int k n) ∨ ∃ b,v = .bool b):=by
 rcases hop with rfl | rfl <;> simp only [binI] at h
 ·cases hz:decide (y < 0) with
  | true => simp [hz] at h
  | false =>
   rw [hz] at h
   have:¬ y < 0:=by simpa using hz
   exact ⟨_,h,by simp [binOp,Op.shift,this,shlI],.inl ⟨_,rfl⟩⟩
 ·cases hz:decide (y < 0) with
  | true => simp [hz] at h
  | false =>
   rw [hz] at h
   have:¬ y < 0:=by simpa using hz
   exact ⟨_,h,by simp [binOp,Op.shift,this,shrI],.inl ⟨_,rfl⟩⟩
theorem binOp_eql (t:TypeId) (x y:Value) (h:∀ k n,x ≠ .int k n) (h1:∀ s,x ≠ .string s) (h2:∀ k n,x ≠ .float k n) (h3:∀ k a b,x ≠ .complex k a b) :
 binOp .eql t x y = (do pure (.bool (← Op.equal t x y))):=by
 cases x <;> first
  | exact absurd rfl (h _ _)
  | exact absurd rfl (h1 _)
  | exact absurd rfl (h2 _ _)
  | exact absurd rfl (h3 _ _ _)
  | rfl
theorem binOp_neq (t:TypeId) (x y:Value) (h:∀ k n,x ≠ .int k n) (h1:∀ s,x ≠ .string s) (h2:∀ k n,x ≠ .float k n) (h3:∀ k a b,x ≠ .complex k a b) :
 binOp .neq t x y = (do pure (.bool (!(← Op.equal t x y)))):=by
 cases x <;> first
  | exact absurd rfl (h _ _)
  | exact absurd rfl (h1 _)
  | exact absurd rfl (h2 _ _)
  | exact absurd rfl (h3 _ _ _)
  | rfl
theorem equal_bool {t:TypeId} (hu:P.underlying t = some .bool) (a b:Bool):(Op.equal t (.bool a) (.bool b)).run P w = .ok (a == b) w:=by
 obtain ⟨n,hn⟩:∃ n,Op.maxDepth = n + 1:=⟨9999,rfl⟩
 unfold Op.equal;rw [hn]
 simp only [Op.equalIn,Sem.run_bind,under w hu,Result.andThen_ok]
 rfl
theorem equal_ptr0 {t el:TypeId} (hu:P.underlying t = some (.pointer el)) (a:Option Addr):(Op.equal t (.pointer a) (.pointer none)).run P w = .ok a.isNone w:=by
 obtain ⟨n,hn⟩:∃ n,Op.maxDepth = n + 1:=⟨9999,rfl⟩
 unfold Op.equal;rw [hn]
 simp only [Op.equalIn,Sem.run_bind,under w hu,Result.andThen_ok]
 cases a <;> rfl
theorem equal_sl0 {t el:TypeId} (hu:P.underlying t = some (.slice el)) (a:Option Addr) (n c n' c':Nat):(Op.equal t (.slice a n c) (.slice none n' c')).run P w = .ok a.isNone w:=by
 obtain ⟨n,hn⟩:∃ n,Op.maxDepth = n + 1:=⟨9999,rfl⟩
 unfold Op.equal;rw [hn]
 simp only [Op.equalIn,Sem.run_bind,under w hu,Result.andThen_ok]
 cases a <;> rfl
theorem equal_nil {t:TypeId} {ms} (hu:P.underlying t = some (.interface ms)):(Op.equal t .nilIface .nilIface).run P w = .ok true w:=by
 obtain ⟨n,hn⟩:∃ n,Op.maxDepth = n + 1:=⟨9999,rfl⟩
 unfold Op.equal;rw [hn]
 simp only [Op.equalIn,Sem.run_bind,under w hu,Result.andThen_ok]
 rfl
theorem equal_nil1 {t:TypeId} {ms} (hu:P.underlying t = some (.interface ms)) (u:TypeId) (v:Value):(Op.equal t .nilIface (.iface u v)).run P w = .ok false w:=by
 obtain ⟨n,hn⟩:∃ n,Op.maxDepth = n + 1:=⟨9999,rfl⟩
 unfold Op.equal;rw [hn]
 simp only [Op.equalIn,Sem.run_bind,under w hu,Result.andThen_ok]
 rfl
theorem equal_nil2 {t:TypeId} {ms} (hu:P.underlying t = some (.interface ms)) (u:TypeId) (v:Value):(Op.equal t (.iface u v) .nilIface).run P w = .ok false w:=by
 obtain ⟨n,hn⟩:∃ n,Op.maxDepth = n + 1:=⟨9999,rfl⟩
 unfold Op.equal;rw [hn]
 simp only [Op.equalIn,Sem.run_bind,under w hu,Result.andThen_ok]
 rfl
theorem equal_if_ne {t:TypeId} {ms} (hu:P.underlying t = some (.interface ms)) (u u':TypeId) (hne:u ≠ u') (v v':Value):(Op.equal t (.iface u v) (.iface u' v')).run P w = .ok false w:=by
 obtain ⟨n,hn⟩:∃ n,Op.maxDepth = n + 1:=⟨9999,rfl⟩
 unfold Op.equal;rw [hn]
 simp only [Op.equalIn,Sem.run_bind,under w hu,Result.andThen_ok]
 rw [if_pos hne]
 rfl
theorem equal_if_int {t:TypeId} {ms} (hu:P.underlying t = some (.interface ms)) (u:TypeId) {k k1 k2:IntKind} (huu:P.underlying u = some (.int k)) {i:TypeInfo} (hi:P.info? u = some i) (hc:i.comparable = true) (hk:k1 = k2) (a b:Int) :
 (Op.equal t (.iface u (.int k1 a)) (.iface u (.int k2 b))).run P w = .ok (a == b) w:=by
 obtain ⟨n,hn⟩:∃ n,Op.maxDepth = n + 1 + 1:=⟨9998,rfl⟩
 unfold Op.equal;rw [hn]
 subst hk
 simp only [Op.equalIn,Sem.run_bind,under w hu,Result.andThen_ok]
 simp [typeInfo,hi,hc,under w huu]
end
end Go.Mx
set_option linter.unusedVariables false
set_option linter.unusedSimpArgs false
namespace Go.Mx
theorem cellsEq_app:∀ {k1 k2:List EK} {x1 x2 y1 y2:List Value},x1.length = k1.length → y1.length = k1.length → x2.length = k2.length → y2.length = k2.length →
 cellsEq (k1 ++ k2) (x1 ++ x2) (y1 ++ y2) = (cellsEq k1 x1 y1).bind fun c => bif c then cellsEq k2 x2 y2 else some false
 | [],k2,x1,x2,y1,y2,hx,hy,_,_ => by
  have e1:x1 = []:=List.length_eq_zero_iff.1 hx
  have e2:y1 = []:=List.length_eq_zero_iff.1 hy
  subst e1;subst e2;rfl
 | k :: k1,k2,[],x2,y1,y2,hx,hy,_,_ => by simp at hx
 | k :: k1,k2,x :: x1,x2,[],y2,hx,hy,_,_ => by simp at hy
 | k :: k1,k2,x :: x1,x2,y :: y1,y2,hx,hy,h1,h2 => by
  simp only [List.cons_append,cellsEq]
  have hx':x1.length = k1.length:=by simpa using hx
  have hy':y1.length = k1.length:=by simpa using hy
  cases h:cellEq k x y with
  | none => rfl
  | some c =>
   cases c
   ·simp only [Option.bind_some,cond_false,List.length_append,hx',hy',h1,h2,Nat.beq_refl,Bool.and_self,cond_true]
   ·simp only [Option.bind_some,cond_true]
    exact cellsEq_app hx' hy' h1 h2
theorem cellsEq_split {ks:List EK} {xs ys:List Value} {z:Nat} (hz:z ≤ ks.length) (hx:xs.length = ks.length) (hy:ys.length = ks.length) :
 cellsEq ks xs ys = (cellsEq (ks.take z) (xs.take z) (ys.take z)).bind fun c => bif c then cellsEq (ks.drop z) (xs.drop z) (ys.drop z) else some false:=by
 rw [← cellsEq_app (by simp;omega) (by simp;omega) (by simp;omega) (by simp;omega)]
 simp only [List.take_append_drop]
theorem cellsEq_len:∀ {ks:List EK} {xs ys:List Value} {c:Bool},cellsEq ks xs ys = some c → xs.length = ks.length ∧ ys.length = ks.length
 | [],[],[],c,h => by simp
 | [],[],_ :: _,c,h => by simp [cellsEq] at h
 | [],_ :: _,_,c,h => by simp [cellsEq] at h
 | k :: ks,[],_,c,h => by simp [cellsEq] at h
 | k :: ks,x :: xs,[],c,h => by simp [cellsEq] at h
 | k :: ks,x :: xs,y :: ys,c,h => by
  simp only [cellsEq] at h
  obtain ⟨d,h1,h2⟩:=Option.bind_eq_some_iff.1 h
  cases d
  ·simp only [cond_false] at h2
   cases h3:(Nat.beq xs.length ks.length && Nat.beq ys.length ks.length) with
   | false => rw [h3] at h2;simp at h2
   | true =>
    simp only [Bool.and_eq_true] at h3
    have a:=Nat.eq_of_beq_eq_true h3.1
    have b:=Nat.eq_of_beq_eq_true h3.2
    simp [a,b]
  ·have:=cellsEq_len h2
   simp [this.1,this.2]
theorem VRs.uncons {ρ:Rn} {L:Nat} {x:Value} {xs cs':List Value} (h:VRs ρ L (x :: xs) cs'):∃ x' xs',cs' = x' :: xs' ∧ VR ρ L x x' ∧ VRs ρ L xs xs':=by
 cases cs' with
 | nil => have:=h.len;simp at this
 | cons x' xs' =>
  refine ⟨x',xs',rfl,?_,by simpa using h.len,fun v hv => h.one v (by simp [hv]),fun i v hi => ?_⟩
  ·obtain ⟨v',h1,h2⟩:=h.all 0 x rfl
   simp at h1;subst h1;exact h2
  ·obtain ⟨v',h1,h2⟩:=h.all (i + 1) v (by simpa using hi)
   exact ⟨v',by simpa using h1,h2⟩
theorem cellEq_rel {ρ:Rn} {L:Nat} {e:EK} {x x' y y':Value} {c:Bool} (hx:VR ρ L x x') (hy:VR ρ L y y') (h:cellEq e x y = some c):cellEq e x' y' = some c:=by
 unfold cellEq at h
 split at h
 ·rw [hx.int_inv,hy.int_inv];exact h
 ·rw [hx.bool_inv,hy.bool_inv];exact h
 ·rw [hx.str_inv,hy.str_inv];exact h
 ·simp at h
theorem cellsEq_rel {ρ:Rn} {L:Nat}:∀ {ks:List EK} {xs xs' ys ys':List Value} {c:Bool},VRs ρ L xs xs' → VRs ρ L ys ys' → cellsEq ks xs ys = some c → cellsEq ks xs' ys' = some c
 | [],[],xs',[],ys',c,hx,hy,h => by
  have e1:xs' = []:=List.length_eq_zero_iff.1 hx.len.symm
  have e2:ys' = []:=List.length_eq_zero_iff.1 hy.len.symm
  subst e1;subst e2;exact h
 | [],[],_,_ :: _,_,c,hx,hy,h => by simp [cellsEq] at h
 | [],_ :: _,_,_,_,c,hx,hy,h => by simp [cellsEq] at h
 | k :: ks,[],_,_,_,c,hx,hy,h => by simp [cellsEq] at h
 | k :: ks,x :: xs,_,[],_,c,hx,hy,h => by simp [cellsEq] at h
 | k :: ks,x :: xs,xs',y :: ys,ys',c,hx,hy,h => by
  obtain ⟨x',xs',rfl,a1,a2⟩:=hx.uncons
  obtain ⟨y',ys',rfl,b1,b2⟩:=hy.uncons
  simp only [cellsEq] at h ⊢
  obtain ⟨d,h1,h2⟩:=Option.bind_eq_some_iff.1 h
  rw [cellEq_rel a1 b1 h1,Option.bind_some]
  cases d
  ·simp only [cond_false] at h2 ⊢
   rw [← a2.len,← b2.len];exact h2
  ·simp only [cond_true] at h2 ⊢
   exact cellsEq_rel a2 b2 h2
def IsV (T:TT) (t:Nat) (xs:List Value) (x:Value):Prop:=if agg? (T t).d = true then x = .agg ⟨xs⟩ else xs = [x]
theorem part_isV {P:Program} {T:TT} (hT:TOk P T) {t:Nat} (hne:(T t).d ≠ .other) {cs:List Value} {i:Nat} (hl:i + (T t).size ≤ cs.length) (w:World) :
 ∃ x,(part t ⟨cs⟩ i).run P w = .ok x w ∧ IsV T t ((cs.drop i).take (T t).size) x:=by
 have ht:=hT t hne
 unfold IsV
 by_cases ha:agg? (T t).d = true
 ·refine ⟨_,part_agg ht ha w,?_⟩
  rw [if_pos ha]
  congr 1
  apply Array.toList_inj.1
  rw [Array.toList_extract]
  simp [List.extract_eq_take_drop]
 ·have ha':agg? (T t).d = false:=by simpa using ha
  have h1:=ht.one ha'
  have hi:i < cs.length:=by omega
  refine ⟨cs[i],part_one ht ha' (by simp [hi]) w,?_⟩
  rw [if_neg ha,h1,List.take_one,List.head?_drop]
  simp [hi]
theorem eq_leaf {k:EK} {x y:Value} {c:Bool} (h:cellsEq [k] [x] [y] = some c):cellEq k x y = some c:=by
 simp only [cellsEq] at h
 obtain ⟨d,h1,h2⟩:=Option.bind_eq_some_iff.1 h
 rw [h1]
 cases d <;> simpa using h2
theorem cellEq_bool {a b:Value} {c:Bool} (h:cellEq .bool a b = some c):∃ x y,a = .bool x ∧ b = .bool y ∧ (x == y) = c:=by
 unfold cellEq at h
 split at h <;> simp_all
theorem cellEq_int {k:IntKind} {a b:Value} {c:Bool} (h:cellEq (.int k) a b = some c):∃ x y,a = .int k x ∧ b = .int k y ∧ (x == y) = c:=by
 unfold cellEq at h
 split at h
 ·rename_i h1
  injection h1 with h1
  subst h1
  split at h
  ·rename_i h2
   obtain ⟨rfl,rfl⟩:=h2
   exact ⟨_,_,rfl,rfl,by simpa using h⟩
  ·cases h
 ·simp at *
 ·simp at *
 ·cases h
theorem cellEq_str {a b:Value} {c:Bool} (h:cellEq .str a b = some c):∃ x y,a = .string x ∧ b = .string y ∧ strEq x y = c:=by
 unfold cellEq at h
 split at h <;> simp_all
theorem eqIn_sound {P:Program} {T:TT} (hT:TOk P T):∀ (f d:Nat) (t:Nat) (ks:List EK),(T t).d ≠ .other → eqTy P T f t ks = true → ∀ (w:World) (xs ys:List Value) (x y:Value) (c:Bool),IsV T t xs x → IsV T t ys y → xs.length = ks.length → ys.length = ks.length →
 cellsEq ks xs ys = some c → (Op.equalIn (d + f) t x y).run P w = .ok c w
 | 0,d,t,ks,hne,h,_,_,_,_,_,_,_,_,_,_,_ => by simp [eqTy] at h
 | f + 1,d,t,ks,hne,h,w,xs,ys,x,y,c,hx,hy,lx,ly,hc => by
  have ht:=hT t hne
  have hdd:=ht.desc
  rw [← Nat.add_assoc]
  unfold eqTy at h
  have leaf:∀ k,ks = [k] → agg? (T t).d = false → (∀ a b,cellEq k a b = some c → (Op.equalIn (d + f + 1) t a b).run P w = .ok c w) → (Op.equalIn (d + f + 1) t x y).run P w = .ok c w:=by
   rintro k rfl ha hk
   unfold IsV at hx hy
   rw [if_neg (by simp [ha])] at hx hy
   subst hx;subst hy
   exact hk _ _ (eq_leaf hc)
  split at h
  ·rename_i hu
   have hk:ks = [.bool]:=by simpa using h
   refine leaf _ hk (by cases hd:(T t).d <;> rw [hd] at hdd <;> simp_all [descOk,agg?]) fun a b hab => ?_
   obtain ⟨x,y,rfl,rfl,rfl⟩:=cellEq_bool hab
   exact run_equalIn_bool' w (d + f) t _ _ hu
  ·rename_i q hu
   have hk:ks = [.int q]:=by simpa using h
   refine leaf _ hk (by cases hd:(T t).d <;> rw [hd] at hdd <;> simp_all [descOk,agg?]) fun a b hab => ?_
   obtain ⟨x,y,rfl,rfl,rfl⟩:=cellEq_int hab
   exact run_equalIn_int w (d + f) t _ _ _ _ hu
  ·rename_i hu
   have hk:ks = [.str]:=by simpa using h
   refine leaf _ hk (by cases hd:(T t).d <;> rw [hd] at hdd <;> simp_all [descOk,agg?]) fun a b hab => ?_
   obtain ⟨x,y,rfl,rfl,rfl⟩:=cellEq_str hab
   exact run_equalIn_string w (d + f) t _ _ hu
  ·rename_i fs hu
   simp only [Bool.and_eq_true,Bool.not_eq_true'] at h
   obtain ⟨⟨hp,hlen⟩,hfs⟩:=h
   have ha:agg? (T t).d = true:=by cases hd:(T t).d <;> rw [hd] at hdd <;> simp_all [descOk,agg?]
   unfold IsV at hx hy
   rw [if_pos ha] at hx hy
   subst hx;subst hy
   have hfo:P.fieldsOf t = fs:=by simp [Program.fieldsOf,hu]
   rw [run_equalIn_struct w (d + f) t _ _ (by rw [hfo];exact hu) hp,hfo]
   have go:∀ (gs:List Field) (off:Nat) (ks:List EK),eqFs (eqTy P T f) T gs off ks = true → off + ks.length = xs.length → off + ks.length = ys.length → cellsEq ks (xs.drop off) (ys.drop off) = some c →
    (Op.eqFields (d + f) ⟨xs⟩ ⟨ys⟩ gs).run P w = .ok c w:=by
    intro gs
    induction gs with
    | nil =>
     intro off ks h1 h2 h3 h4
     simp only [eqFs,List.isEmpty_iff] at h1
     subst h1
     simp only [List.length_nil,Nat.add_zero] at h2 h3
     rw [List.drop_of_length_le (by omega),List.drop_of_length_le (by omega)] at h4
     simp only [cellsEq,Option.some.injEq] at h4
     subst h4
     simp [Op.eqFields]
    | cons g gs ih =>
     intro off ks h1 h2 h3 h4
     simp only [eqFs,Bool.and_eq_true,bne_iff_ne] at h1
     obtain ⟨⟨⟨⟨⟨b1,b2⟩,b3⟩,b4⟩,b5⟩,b6⟩:=h1
     have e2:=Nat.eq_of_beq_eq_true b2
     have e4:=Nat.le_of_ble_eq_true b4
     have hgne:=notOther_ne b3
     subst e2
     obtain ⟨u,p1,p2⟩:=part_isV (P:=P) hT hgne (cs:=xs) (i:=g.offset) (by omega) w
     obtain ⟨v,p3,p4⟩:=part_isV (P:=P) hT hgne (cs:=ys) (i:=g.offset) (by omega) w
     rw [cellsEq_split e4 (by simp;omega) (by simp;omega)] at h4
     obtain ⟨c1,h5,h6⟩:=Option.bind_eq_some_iff.1 h4
     have h7:=eqIn_sound hT f d g.type _ hgne b5 w _ _ u v c1 p2 p4 (by simp;omega) (by simp;omega) h5
     simp only [Op.eqFields,b1,ne_eq,not_false_eq_true,if_true,Sem.run_bind,p1,p3,h7,Result.andThen_ok]
     cases c1
     ·simp at h6;subst h6;simp
     ·simp only [cond_true] at h6
      rw [List.drop_drop,List.drop_drop] at h6
      simpa using ih (g.offset + (T g.type).size) _ b6 (by simp;omega) (by simp;omega) h6
   exact go fs.toList 0 ks hfs (by omega) (by omega) (by simpa using hc)
  ·rename_i n e hu
   simp only [Bool.and_eq_true,List.all_eq_true,List.mem_range] at h
   obtain ⟨⟨⟨b1,b2⟩,b3⟩,b4⟩:=h
   have hene:=notOther_ne b1
   have e3:=Nat.eq_of_beq_eq_true b3
   have ha:agg? (T t).d = true:=by cases hd:(T t).d <;> rw [hd] at hdd <;> simp_all [descOk,agg?]
   unfold IsV at hx hy
   rw [if_pos ha] at hx hy
   subst hx;subst hy
   obtain ⟨i,hi,hi2,_⟩:=(hT e hene).info
   have hce:P.cellsOf e = (T e).size:=by simp [Program.cellsOf,hi,hi2]
   rw [run_equalIn_array w (d + f) _ _ hu hi,hce]
   have go:∀ (m j:Nat),j + m = n → cellsEq (ks.drop (j * (T e).size)) (xs.drop (j * (T e).size)) (ys.drop (j * (T e).size)) = some c →
    (Op.eqItems (d + f) e (T e).size ⟨xs⟩ ⟨ys⟩ (List.range' j m)).run P w = .ok c w:=by
    intro m
    induction m with
    | zero =>
     intro j hj h4
     have:j = n:=by omega
     subst this
     rw [List.drop_of_length_le (by omega),List.drop_of_length_le (by omega),List.drop_of_length_le (by omega)] at h4
     simp only [cellsEq,Option.some.injEq] at h4
     subst h4
     simp [Op.eqItems]
    | succ m ih =>
     intro j hj h4
     have hj2:j * (T e).size + (T e).size ≤ n * (T e).size:=by
      have:=Nat.mul_le_mul_right (T e).size (show j + 1 ≤ n by omega)
      rwa [Nat.succ_mul] at this
     obtain ⟨u,p1,p2⟩:=part_isV (P:=P) hT hene (cs:=xs) (i:=j * (T e).size) (by omega) w
     obtain ⟨v,p3,p4⟩:=part_isV (P:=P) hT hene (cs:=ys) (i:=j * (T e).size) (by omega) w
     rw [cellsEq_split (z:=(T e).size) (by simp;omega) (by simp;omega) (by simp;omega)] at h4
     obtain ⟨c1,h5,h6⟩:=Option.bind_eq_some_iff.1 h4
     have h7:=eqIn_sound hT f d e _ hene (b4 j (by omega)) w _ _ u v c1 p2 p4 (by simp;omega) (by simp;omega) h5
     rw [List.range'_succ]
     simp only [Op.eqItems,Sem.run_bind,p1,p3,h7,Result.andThen_ok]
     cases c1
     ·simp at h6;subst h6;simp
     ·simp only [cond_true] at h6
      rw [List.drop_drop,List.drop_drop,List.drop_drop] at h6
      simpa [Nat.succ_mul] using ih (j + 1) (by omega) (by rw [Nat.succ_mul];exact h6)
   rw [List.range_eq_range']
   exact go n 0 (by omega) (by simpa using hc)
  ·simp at h
end Go.Mx
set_option linter.unusedVariables false
set_option linter.unusedSimpArgs false
namespace Go.Mx
section
variable {P:Program} {R:Type} {C:Ctx R} {ρ:Rn} {e:Env} {m:Mem} {a:Act} {w:World} {r:R} {K:Value → Mem → Option R}
 {dst:Option Tmp} {ty:TypeId} {pos:String} {after:Array Edge} {guard:Option (Nat × Bool)}
theorem eqGuard_const (op:BinOp) (t:TypeId) (x y:Operand) (hn:isNilConst y = true):(eqGuard op t x y .nilIface .nilIface).run P w = .ok () w:=by
 have hy:y = .const .nilIface:=by
  unfold isNilConst at hn
  split at hn
  ·rfl
  ·simp at hn
 subst hy
 unfold eqGuard
 cases op <;> first | rfl | (simp <;> rfl)
def Ans (P:Program) (w:World) (op:BinOp) (t:TypeId) (xo yo:Operand) (x' y':Value) (v:Value):Prop :=
 plainV v = true ∧ (eqGuard op t xo yo x' y').run P w = .ok () w ∧ (binOp op t x' y').run P w = .ok v w
theorem binV_sound {T:TT} (hT:TOk P T) {op:BinOp} {t:TypeId} {x y x' y':Value} {xo yo:Operand} {L:Nat} {K:Value → Option R}
 (h:binV T (T t).d (T t).eq op x y (isNilConst yo) K = some r) (hx:VR ρ L x x') (hy:VR ρ L y y') (hyn:isNilConst yo = true → y' = .nilIface):∃ v,K v = some r ∧ Ans P w op t xo yo x' y' v:=by
 cases hd:(T t).d <;> simp only [binV,hd] at h
 case int kd =>
  split at h
  ·rename_i k p k' q
   rw [hx.int_inv,hy.int_inv]
   have fin:∀ {v:Value},((∃ n,v = .int k n) ∨ ∃ b,v = .bool b) → plainV v = true:=by
    rintro v (⟨n,rfl⟩ | ⟨b,rfl⟩) <;> rfl
   have hg:(eqGuard op t xo yo (.int k p) (.int k' q)).run P w = .ok () w:=eqGuard_none op t xo yo _ _ (by simp) (by simp)
   split at h
   ·obtain ⟨v,h1,h2,h3⟩:=shift_sound (P:=P) (w:=w) (k':=k') (.inl rfl) h t
    exact ⟨v,h1,fin h3,hg,h2⟩
   ·obtain ⟨v,h1,h2,h3⟩:=shift_sound (P:=P) (w:=w) (k':=k') (.inr rfl) h t
    exact ⟨v,h1,fin h3,hg,h2⟩
   ·split at h
    ·rename_i hk;subst hk
     obtain ⟨v,h1,h2,h3⟩:=binI_sound (P:=P) (w:=w) h t rfl
     exact ⟨v,h1,fin h3,hg,h2⟩
    ·simp at h
  ·simp at h
 case str =>
  split at h
  ·rename_i p q
   rw [hx.str_inv,hy.str_inv]
   have hg:(eqGuard op t xo yo (.string p) (.string q)).run P w = .ok () w:=eqGuard_none op t xo yo _ _ (by simp) (by simp)
   split at h
   ·exact ⟨_,h,rfl,hg,by simp [binOp,Op.stringOp,strEq]⟩
   ·exact ⟨_,h,rfl,hg,by simp [binOp,Op.stringOp,strEq]⟩
   ·simp at h
  ·simp at h
 case bool =>
  have ht:=hT t (by rw [hd];simp)
  have hdd:=ht.desc
  rw [hd] at hdd
  split at h
  ·rename_i b c
   rw [hx.bool_inv,hy.bool_inv]
   refine ⟨_,h,rfl,eqGuard_none _ _ _ _ _ _ (by simp) (by simp),?_⟩
   rw [binOp_eql _ _ _ (by simp) (by simp) (by simp) (by simp)]
   simp [equal_bool (P:=P) (w:=w) hdd]
  ·rename_i b c
   rw [hx.bool_inv,hy.bool_inv]
   refine ⟨_,h,rfl,eqGuard_none _ _ _ _ _ _ (by simp) (by simp),?_⟩
   rw [binOp_neq _ _ _ (by simp) (by simp) (by simp) (by simp)]
   simp [equal_bool (P:=P) (w:=w) hdd]
  ·simp at h
 case ptr el =>
  have ht:=hT t (by rw [hd];simp)
  have hdd:=ht.desc
  rw [hd] at hdd
  have hp0:∀ {q:Option Addr} {v'},VR ρ L (.pointer q) v' → ∃ q',v' = .pointer q' ∧ q'.isNone = q.isNone:=by
   intro q v' hv;cases hv <;> exact ⟨_,rfl,rfl⟩
  split at h
  ·rename_i b
   obtain ⟨q',h1,h2⟩:=hp0 hx
   cases hy
   rw [h1]
   refine ⟨_,h,rfl,eqGuard_none _ _ _ _ _ _ (by simp) (by simp),?_⟩
   rw [binOp_eql _ _ _ (by simp) (by simp) (by simp) (by simp)]
   simp [equal_ptr0 (P:=P) (w:=w) hdd,h2]
  ·rename_i b
   obtain ⟨q',h1,h2⟩:=hp0 hx
   cases hy
   rw [h1]
   refine ⟨_,h,rfl,eqGuard_none _ _ _ _ _ _ (by simp) (by simp),?_⟩
   rw [binOp_neq _ _ _ (by simp) (by simp) (by simp) (by simp)]
   simp [equal_ptr0 (P:=P) (w:=w) hdd,h2]
  ·simp at h
 case slice el =>
  have ht:=hT t (by rw [hd];simp)
  have hdd:=ht.desc
  rw [hd] at hdd
  have hp0:∀ {q:Option Addr} {n c:Nat} {v'},VR ρ L (.slice q n c) v' → ∃ q' n' c',v' = .slice q' n' c' ∧ q'.isNone = q.isNone:=by
   intro q n c v' hv;cases hv <;> exact ⟨_,_,_,rfl,rfl⟩
  split at h
  ·rename_i b n c n2 c2
   obtain ⟨q',n',c',h1,h2⟩:=hp0 hx
   cases hy
   rw [h1]
   refine ⟨_,h,rfl,eqGuard_none _ _ _ _ _ _ (by simp) (by simp),?_⟩
   rw [binOp_eql _ _ _ (by simp) (by simp) (by simp) (by simp)]
   simp [equal_sl0 (P:=P) (w:=w) hdd.1,h2]
  ·rename_i b n c n2 c2
   obtain ⟨q',n',c',h1,h2⟩:=hp0 hx
   cases hy
   rw [h1]
   refine ⟨_,h,rfl,eqGuard_none _ _ _ _ _ _ (by simp) (by simp),?_⟩
   rw [binOp_neq _ _ _ (by simp) (by simp) (by simp) (by simp)]
   simp [equal_sl0 (P:=P) (w:=w) hdd.1,h2]
  ·simp at h
 all_goals try (exfalso;simp at h;done)
 case' struct fs => have hagg:agg? (T t).d = true:=by rw [hd];rfl
 case' array n el => have hagg:agg? (T t).d = true:=by rw [hd];rfl
 case struct | array =>
  have ht:=hT t (by rw [hd];simp)
  split at h
  ·rename_i p q
   simp only [Option.bind_eq_some_iff] at h
   obtain ⟨ks,hks,c,hc,hK⟩:=h
   obtain ⟨p',rfl,a1⟩:=hx.agg_inv
   obtain ⟨q',rfl,a2⟩:=hy.agg_inv
   obtain ⟨e1,e2⟩:=ht.eqv ks hks
   have hc':=cellsEq_rel a1 a2 hc
   obtain ⟨l1,l2⟩:=cellsEq_len hc'
   have key:=eqIn_sound hT 30 9970 t ks (by rw [hd];simp) e1 w p' q' (.agg ⟨p'⟩) (.agg ⟨q'⟩) c (by unfold IsV;rw [if_pos hagg]) (by unfold IsV;rw [if_pos hagg]) l1 l2 hc'
   refine ⟨_,hK,rfl,run_eqGuard_agg w _ _ _ _ _ _ e2,?_⟩
   rw [run_eql_struct]
   rw [show (10000:Nat) = 9970 + 30 from rfl,key];rfl
  ·rename_i p q
   simp only [Option.bind_eq_some_iff] at h
   obtain ⟨ks,hks,c,hc,hK⟩:=h
   obtain ⟨p',rfl,a1⟩:=hx.agg_inv
   obtain ⟨q',rfl,a2⟩:=hy.agg_inv
   obtain ⟨e1,e2⟩:=ht.eqv ks hks
   have hc':=cellsEq_rel a1 a2 hc
   obtain ⟨l1,l2⟩:=cellsEq_len hc'
   have key:=eqIn_sound hT 30 9970 t ks (by rw [hd];simp) e1 w p' q' (.agg ⟨p'⟩) (.agg ⟨q'⟩) c (by unfold IsV;rw [if_pos hagg]) (by unfold IsV;rw [if_pos hagg]) l1 l2 hc'
   refine ⟨_,hK,rfl,run_eqGuard_agg w _ _ _ _ _ _ e2,?_⟩
   rw [run_neq_struct]
   rw [show (10000:Nat) = 9970 + 30 from rfl,key];rfl
  ·simp at h
 case iface =>
  have ht:=hT t (by rw [hd];simp)
  have hdd:=ht.desc
  rw [hd] at hdd
  obtain ⟨ms,hu⟩:=hdd
  have main:∀ (neg:Bool),(op = .eql ∧ neg = false ∨ op = .neq ∧ neg = true) → ((bif isNilConst yo then (isNil x).bind fun c => K (.bool (neg ^^ c)) else (ifEq T x y).bind fun c => K (.bool (neg ^^ c))) = some r) →
   ∃ v,K v = some r ∧ Ans P w op t xo yo x' y' v:=by
   intro neg hop h
   have fin:∀ (c:Bool),(Op.equal t x' y').run P w = .ok c w → (∀ k n,x' ≠ .int k n) → (∀ s,x' ≠ .string s) → (∀ k n,x' ≠ .float k n) → (∀ k a b,x' ≠ .complex k a b) → (binOp op t x' y').run P w = .ok (.bool (neg ^^ c)) w:=by
    intro c hc a1 a2 a3 a4
    rcases hop with ⟨rfl,rfl⟩ | ⟨rfl,rfl⟩
    ·rw [binOp_eql _ _ _ a1 a2 a3 a4];simp [hc]
    ·rw [binOp_neq _ _ _ a1 a2 a3 a4];simp [hc]
   cases hn:isNilConst yo with
   | true =>
    simp only [hn,cond_true,Option.bind_eq_some_iff] at h
    obtain ⟨c,hc,hK⟩:=h
    refine ⟨_,hK,rfl,?_⟩
    have hy':=hyn hn
    subst hy'
    unfold isNil at hc
    split at hc
    ·simp at hc;subst hc
     cases hx
     exact ⟨eqGuard_const _ _ _ _ hn,fin _ (equal_nil hu) (by simp) (by simp) (by simp) (by simp)⟩
    ·simp at hc;subst hc
     cases hx
     exact ⟨eqGuard_none _ _ _ _ _ _ (by simp) (by simp),fin _ (equal_nil2 hu _ _) (by simp) (by simp) (by simp) (by simp)⟩
    ·simp at hc
   | false =>
    simp only [hn,cond_false,Option.bind_eq_some_iff] at h
    obtain ⟨c,hc,hK⟩:=h
    refine ⟨_,hK,rfl,?_⟩
    unfold ifEq at hc
    split at hc
    ·simp at hc;subst hc
     cases hx;cases hy
     exact ⟨eqGuard_none _ _ _ _ _ _ (by simp) (by simp),fin _ (equal_nil1 hu _ _) (by simp) (by simp) (by simp) (by simp)⟩
    ·simp at hc;subst hc
     cases hx;cases hy
     exact ⟨eqGuard_none _ _ _ _ _ _ (by simp) (by simp),fin _ (equal_nil2 hu _ _) (by simp) (by simp) (by simp) (by simp)⟩
    ·rename_i u k1 p u' k2 q
     cases hx with | iface _ _ _ hx => cases hy with | iface _ _ _ hy =>
     obtain rfl:=hx.int_inv
     obtain rfl:=hy.int_inv
     refine ⟨eqGuard_none _ _ _ _ _ _ (by simp) (by simp),?_⟩
     split at hc
     ·rename_i hu';subst hu'
      split at hc
      ·rename_i k hk
       split at hc
       ·rename_i hkk
        simp at hc;subst hc
        have htu:=hT u (by rw [hk];simp)
        have hdu:=htu.desc
        rw [hk] at hdu
        obtain ⟨i,hi,hci⟩:=htu.cmp k hk
        exact fin _ (equal_if_int hu u hdu hi hci hkk _ _) (by simp) (by simp) (by simp) (by simp)
       ·simp at hc
      ·simp at hc
     ·rename_i hne
      simp at hc;subst hc
      exact fin _ (equal_if_ne hu _ _ hne _ _) (by simp) (by simp) (by simp) (by simp)
    ·rename_i u p u' q hnot
     cases hx with | iface _ _ _ hx => cases hy with | iface _ _ _ hy =>
     split at hc
     ·simp at hc
     ·rename_i hne
      simp at hc;subst hc
      exact ⟨eqGuard_none _ _ _ _ _ _ (by simp) (by simp),fin _ (equal_if_ne hu _ _ hne _ _) (by simp) (by simp) (by simp) (by simp)⟩
    ·simp at hc
  split at h
  ·exact main false (.inl ⟨rfl,rfl⟩) (by simpa using h)
  ·exact main true (.inr ⟨rfl,rfl⟩) (by simpa using h)
  ·simp at h
theorem op_binOp (hs:St P C.T ρ e m a w) {op:BinOp} {t yt:TypeId} {x y:Operand} (h:oper C (.binOp op t x y yt) e m K = some r):∃ v m',K v m' = some r ∧ Did P a ⟨dst,.binOp op t x y yt,ty,pos,after,guard⟩ ρ m w v m':=by
 simp only [oper] at h
 split at h
 ·rename_i u v hu hv
  obtain ⟨z,h1,h2,h3,h4⟩:=binV_sound (P:=P) (w:=w) (xo:=x) (yo:=y) hs.tok h (opnd_sound hs.env hu) (opnd_sound hs.env hv) (by
   intro hn
   unfold isNilConst at hn
   split at hn
   ·rfl
   ·simp at hn)
  refine ⟨z,m,h1,.here hs.mem (v':=z) ?_ (VR.plain h2)⟩
  simp [execOp,h3,h4]
 ·simp at h
theorem op_unOp (hs:St P C.T ρ e m a w) {op:UnOp} {t:TypeId} {x:Operand} (h:oper C (.unOp op t x) e m K = some r):∃ v m',K v m' = some r ∧ Did P a ⟨dst,.unOp op t x,ty,pos,after,guard⟩ ρ m w v m':=by
 simp only [oper] at h
 split at h
 ·rename_i b hx
  have hx':=(opnd_sound hs.env hx).bool_inv
  exact ⟨_,m,h,.here hs.mem (v':=.bool (!b)) (by simp [execOp,Op.unary,hx']) (.bool _)⟩
 ·rename_i k n hx
  have hx':=(opnd_sound hs.env hx).int_inv
  exact ⟨_,m,h,.here hs.mem (v':=.int k (k.wrap (0 - n))) (by simp [execOp,Op.unary,Op.intArith,hx']) (.int _ _)⟩
 ·rename_i k n hx
  have hx':=(opnd_sound hs.env hx).int_inv
  exact ⟨_,m,h,.here hs.mem (v':=.int k (bitI .xor k (if k.signed then -1 else k.max) n)) (by simp [execOp,Op.unary,Op.intBits,hx',bitI]) (.int _ _)⟩
 ·simp at h
theorem op_makeFunc (hs:St P C.T ρ e m a w) {fn:Fn} {first captured:Array Operand} (h:oper C (.makeFunc fn first captured) e m K = some r):∃ v m',K v m' = some r ∧ Did P a ⟨dst,.makeFunc fn first captured,ty,pos,after,guard⟩ ρ m w v m':=by
 simp only [oper] at h
 split at h
 ·rename_i f fa ca hfa hca
  obtain ⟨l1,a1⟩:=opnds_sound hs.env hfa
  obtain ⟨l2,a2⟩:=opnds_sound hs.env hca
  have conv:∀ {xs:Array Operand} {vs:List Value},vs.length = xs.toList.length → (∀ (i:Nat) v,vs[i]? = some v → ∃ x,xs.toList[i]? = some x ∧ VR ρ m.length v (a.eval x)) →
   vs.length = (xs.map a.eval).toList.length ∧ ∀ i,i < vs.length → VR ρ m.length (vs.getD i undef) ((xs.map a.eval).toList.getD i undef):=by
   intro xs vs hl hv
   refine ⟨by simp [hl],fun i hi => ?_⟩
   obtain ⟨x,h1,h2⟩:=hv i vs[i] (by simp [hi])
   have:(xs.map a.eval).toList[i]? = some (a.eval x):=by rw [Array.toList_map,List.getElem?_map,h1];rfl
   rw [List.getD_eq_getElem?_getD,List.getD_eq_getElem?_getD,this,List.getElem?_eq_getElem hi]
   exact h2
  obtain ⟨b1,b2⟩:=conv l1 a1
  obtain ⟨b3,b4⟩:=conv l2 a2
  refine ⟨_,m,h,.here hs.mem (v':=.func (.func f) (first.map a.eval) (captured.map a.eval)) ?_ (.fn f _ _ _ _ b1 b3 b2 b4)⟩
  simp [execOp,Instr.makeFunc]
 ·simp at h
theorem op_makeInterface (hs:St P C.T ρ e m a w) {t:TypeId} {x:Operand} (h:oper C (.makeInterface t x) e m K = some r):∃ v m',K v m' = some r ∧ Did P a ⟨dst,.makeInterface t x,ty,pos,after,guard⟩ ρ m w v m':=by
 simp only [oper] at h
 split at h
 ·simp at h
 ·simp at h
 ·rename_i v hx hn1 hn2
  have hx':=opnd_sound hs.env hx
  refine ⟨_,m,h,.here hs.mem (v':=.iface t (a.eval x)) ?_ (.iface _ _ _ hx')⟩
  have ht:=(hs.tok t (by intro h;exact hn2 h)).desc
  have hu:∃ d,P.underlying t = some d ∧ ∀ ms,d ≠ .interface ms:=by
   cases hd:(C.T t).d <;> rw [hd] at ht <;> simp only [descOk] at ht
   case iface => exact absurd hd hn1
   case map => obtain ⟨k,e,h⟩:=ht;exact ⟨_,h,by simp⟩
   case struct fs => obtain ⟨k,h,_⟩:=ht;exact ⟨_,h,by simp⟩
   case array n e => exact ⟨_,ht.1,by simp⟩
   case slice e => exact ⟨_,ht.1,by simp⟩
   case fn => obtain ⟨k,e,f,h⟩:=ht;exact ⟨_,h,by simp⟩
   all_goals exact ⟨_,ht,by simp⟩
  obtain ⟨d,hu,hd⟩:=hu
  simp only [execOp,Instr.makeInterface,Sem.run_bind,under w hu,Result.andThen_ok]
  rfl
 ·simp at h
theorem op_extract (hs:St P C.T ρ e m a w) {x:Operand} {i:Nat} (h:oper C (.extract x i) e m K = some r):∃ v m',K v m' = some r ∧ Did P a ⟨dst,.extract x i,ty,pos,after,guard⟩ ρ m w v m':=by
 simp only [oper] at h
 split at h
 ·rename_i vs hx
  obtain ⟨cs',h1,h2,h3⟩:=(opnd_sound hs.env hx).tuple_inv
  split at h
  ·rename_i v hv
   obtain ⟨u,h4,h5⟩:=h3 i v hv
   refine ⟨v,m,h,.here hs.mem (v':=u) ?_ h5⟩
   simp [execOp,Instr.extract,h1,h4]
  ·simp at h
 ·simp at h
end
end Go.Mx
set_option linter.unusedVariables false
set_option linter.unusedSimpArgs false
namespace Go.Mx
theorem repl_length (n:Nat) (zs:List Value):(repl n zs).length = n * zs.length:=by
 simp [repl]
theorem repl_get (zs:List Value) (hz:0 < zs.length):∀ (n i:Nat),i < n * zs.length → (repl n zs)[i]? = zs[i % zs.length]?
 | 0,i,h => by simp at h
 | n + 1,i,h => by
  have e:repl (n + 1) zs = zs ++ repl n zs:=by simp [repl,List.replicate_succ]
  rw [e,List.getElem?_append]
  split
  ·rename_i hlt;rw [Nat.mod_eq_of_lt hlt]
  ·rename_i hge
   rw [Nat.add_mul] at h
   rw [repl_get zs hz n (i - zs.length) (by rw [Nat.one_mul] at h;omega)]
   congr 1
   exact (Nat.mod_eq_sub_mod (by omega)).symm
theorem repl_range (n:Nat) (zs:Array Value):((Array.range (n * zs.size)).map (zs[· % zs.size]!)).toList = repl n zs.toList:=by
 by_cases hz:0 < zs.size
 ·apply List.ext_getElem?
  intro i
  by_cases hi:i < n * zs.size
  ·rw [repl_get zs.toList (by simpa using hz) n i (by simpa using hi)]
   have h2:i % zs.size < zs.size:=Nat.mod_lt _ hz
   simp [hi,h2,getElem!_pos]
  ·rw [List.getElem?_eq_none (by simp;omega),List.getElem?_eq_none (by rw [repl_length];simpa using hi)]
 ·have hz0:zs.size = 0:=by omega
  have:zs = #[]:=by simpa using hz0
  subst this
  simp [repl]
theorem repl_plain {n:Nat} {zs:List Value} (h:∀ v ∈ zs,plainV v = true):∀ v ∈ repl n zs,plainV v = true:=by
 intro v hv
 simp only [repl,List.mem_flatten,List.mem_replicate] at hv
 obtain ⟨l,⟨_,rfl⟩,h2⟩:=hv
 exact h v h2
section
variable {P:Program} {R:Type} {C:Ctx R} {ρ:Rn} {e:Env} {m:Mem} {a:Act} {w:World} {r:R} {K:Value → Mem → Option R}
 {dst:Option Tmp} {ty:TypeId} {pos:String} {after:Array Edge} {guard:Option (Nat × Bool)}
theorem VR.newSl {ρ':Rn} {m:Mem} {cs:List Value} {w:World} (hb:ρ'.blk m.length = w.heap.size ∧ ρ'.sh m.length = 0) {n c:Nat} (hc:n ≤ c) :
 VR ρ' (m ++ [MObj.live cs]).length (.slice (some ⟨m.length,0,none⟩) n c) (.slice (some ⟨w.heap.size,0,none⟩) n c):=by
 refine .sl _ _ _ _ _ (by simp) ⟨.inr (by simp [toR,hb.1,hb.2]),hc,fun _ => rfl,fun z hz => by simp at hz⟩
theorem op_makeSlice (hs:St P C.T ρ e m a w) {t:TypeId} {l c:Operand} (h:oper C (.makeSlice t l c) e m K = some r):∃ v m',K v m' = some r ∧ Did P a ⟨dst,.makeSlice t l c,ty,pos,after,guard⟩ ρ m w v m':=by
 simp only [oper] at h
 split at h
 ·rename_i el n c' hd hl hc
  have hl':=(opnd_sound hs.env hl).int_inv
  have hc':=(opnd_sound hs.env hc).int_inv
  have ht:=hs.tok t (by rw [hd];simp)
  have hdd:=ht.desc
  rw [hd] at hdd
  have hte:=hs.tok el hdd.2
  obtain ⟨i,hi1,hi2,hi3,z,hi4,hi5⟩:=hte.info
  cases hb:(decide (0 ≤ n) && decide (n ≤ c') && decide (c' * (C.T el).bytes ≤ most) && decide (c' ≤ most)) with
  | false => rw [hb] at h;simp at h
  | true =>
   rw [hb] at h
   simp only [cond_true] at h
   simp only [Bool.and_eq_true,decide_eq_true_eq] at hb
   obtain ⟨⟨⟨h0,h1⟩,h2⟩,h3⟩:=hb
   have hmo:((most:Nat):Int) = 140737488355328:=rfl
   rw [hmo] at h2 h3
   have key:=run_make (P:=P) w t el i z hdd.1 hi1 hi4 .i64 .i64 n c' h0 h1 (by rw [hi3,Int.mul_comm];omega) (by omega)
   have hzs:z.cells.size = i.size:=by
    rw [hi2,← hte.zlen,← hi5];simp
   have hrow:(madeCells z.cells (c'.toNat * i.size)).toList = repl c'.toNat (C.T el).zero:=by
    rw [← hzs,← hi5];exact repl_range _ _
   obtain ⟨ρ',h4,h5,h6,_⟩:=new_obj hs.mem (VRs.plain (ρ:=ρ) (L:=m.length) (repl_plain (n:=c'.toNat) hte.plain)) el
   refine ⟨_,_,h,.slice (some ⟨w.heap.size,0,none⟩) n.toNat c'.toNat,_,ρ',.inl ?_,VR.newSl h6 (by omega),h4,h5⟩
   rw [← hrow]
   simp [execOp,hl',hc',key]
 ·simp at h
theorem upto_of {i:Int} {n:Nat} (h:inUpto i n = true):0 ≤ i ∧ i ≤ n:=by simpa [inUpto] using h
theorem opO_sound (hs:St P C.T ρ e m a w) {x:Option Operand} {v:Option Value} (h:opO e x = some v):(x = none ∧ v = none) ∨ ∃ y u,x = some y ∧ v = some u ∧ opnd e y = some u ∧ VR ρ m.length u (a.eval y):=by
 cases x with
 | none => simp [opO] at h;subst h;exact .inl ⟨rfl,rfl⟩
 | some y =>
  simp only [opO] at h
  split at h
  ·rename_i u hu
   simp at h;subst h
   exact .inr ⟨y,u,rfl,rfl,hu,opnd_sound hs.env hu⟩
  ·simp at h
def bnd (x:Option Operand) (a:Act):Option Value:=x.map a.eval
theorem bnd_none (hs:St P C.T ρ e m a w) {x:Option Operand} (h:opO e x = some none):bnd x a = none:=by
 rcases opO_sound hs h with ⟨rfl,_⟩ | ⟨y,u,_,h2,_⟩
 ·rfl
 ·simp at h2
theorem bnd_int (hs:St P C.T ρ e m a w) {x:Option Operand} {k:IntKind} {n:Int} (h:opO e x = some (some (.int k n))):bnd x a = some (.int k n):=by
 rcases opO_sound hs h with ⟨_,h2⟩ | ⟨y,u,rfl,h2,_,h3⟩
 ·simp at h2
 ·simp at h2;subst h2
  simp [bnd,h3.int_inv]
theorem VR.resliced {ρ:Rn} {L:Nat} {p p':Option Addr} {n c c':Nat} {lo h x x' z:Nat}
 (hv:(p = none ∧ p' = none ∧ n = 0 ∧ c = 0 ∧ c' = 0) ∨ ∃ b b',p = some b ∧ p' = some b' ∧ b.block < L ∧ SlOk ρ b b' n c c') (arr:Bool)
 (hlh:lo ≤ h) (hxx:(arr = true ∧ x' = x ∧ x' ≤ c') ∨ (arr = false ∧ x = c ∧ x' = c')) (hz:arr = true ∨ lo = 0 ∨ sliceK.okZ p z false = true) (hcc:h ≤ x') :
 VR ρ L (.slice ((sliceK.clear p arr).map fun a => Mx.plus a (lo * z)) (h - lo) (x - lo)) (.slice (if x' = lo then p' else p'.map (·.add (lo * z))) (h - lo) (x' - lo)):=by
 rcases hv with ⟨rfl,rfl,hn,hc,hc'⟩ | ⟨b,b',rfl,rfl,hb,h1,h2,h3,h4⟩
 ·have hx:x' = x:=by rcases hxx with ⟨_,h,_⟩ | ⟨_,h,h'⟩ <;> omega
  subst hx
  have hx0:x' = 0:=by rcases hxx with ⟨_,h,_⟩ | ⟨_,h,h'⟩ <;> omega
  have e1:h - lo = 0:=by omega
  have e2:x' - lo = 0:=by omega
  rw [e1,e2]
  have:(if x' = lo then (none:Option Addr) else (none:Option Addr).map (·.add (lo * z))) = none:=by split <;> rfl
  rw [this]
  cases arr <;> exact .sl0
 ·have hspot:∀ q,(sliceK.clear (some b) arr).map (fun a => Mx.plus a (lo * z)) = some q → q.block = b.block ∧ q.off = b.off + lo * z ∧ (arr = true → q.spot = none) ∧ (arr = false → q.spot = b.spot):=by
   intro q hq
   cases arr <;> simp [sliceK.clear,Mx.plus] at hq <;> subst hq <;> simp
  obtain ⟨q,hq⟩:∃ q,(sliceK.clear (some b) arr).map (fun a => Mx.plus a (lo * z)) = some q:=by cases arr <;> exact ⟨_,rfl⟩
  obtain ⟨q1,q2,q3,q4⟩:=hspot q hq
  rw [hq]
  have hto:toR ρ q = (toR ρ b).add (lo * z):=by simp [toR,q1,q2,add_none,Nat.add_assoc]
  have hx'c:x' ≤ c':=by rcases hxx with ⟨_,_,h⟩ | ⟨_,_,h⟩ <;> omega
  have hp:∃ q',(if x' = lo then some b' else (some b').map (·.add (lo * z))) = some q' ∧ (x' - lo = 0 ∨ q' = toR ρ q):=by
   split
   ·exact ⟨b',rfl,.inl (by omega)⟩
   ·refine ⟨b'.add (lo * z),rfl,?_⟩
    rcases h1 with h1 | h1
    ·exact .inl (by omega)
    ·exact .inr (by rw [hto,h1])
  obtain ⟨q',e1,e2⟩:=hp
  rw [e1]
  refine .sl q q' _ _ _ (by omega) ⟨e2,by omega,?_,?_⟩
  ·intro hn
   rcases hxx with ⟨_,h,_⟩ | ⟨harr,h,h'⟩
   ·omega
   ·have:=h3 (by rw [← q4 harr];exact hn);omega
  ·intro y hy
   rcases hxx with ⟨harr,h,_⟩ | ⟨harr,h,h'⟩
   ·rw [q3 harr] at hy;simp at hy
   ·rw [q4 harr] at hy
    obtain ⟨h5,h6⟩:=h4 y hy
    refine ⟨by omega,?_⟩
    rw [q1,q2]
    subst h'
    have hzy:lo = 0 ∨ y = z:=by
     rcases hz with hz | hz | hz
     ·rw [harr] at hz;simp at hz
     ·exact .inl hz
     ·simp [sliceK.okZ,hy] at hz;exact .inr hz
    rcases hzy with rfl | rfl
    ·simp;omega
    ·have:lo * y + (x' - lo) * y = x' * y:=by rw [← Nat.add_mul];congr 1;omega
     omega
theorem sb (k:IntKind) (i:Int) (y:Nat) (code:BoundsCode) (h:inUpto i y = true):(Instr.sliceBound (.int k i) y code).run P w = .ok i.toNat w :=
 run_sliceBound w k i y code (upto_of h).1 (upto_of h).2
theorem slice_run {t el:TypeId} (hu:P.underlying t = some (.slice el)) {z:Nat} (hz:(sizeOf el).run P w = .ok z w) (p:Option Addr) (n c:Nat) (lo hi mx:Option Value) (l h x:Nat)
 (hb:(Instr.sliceBounds true n c lo hi mx).run P w = .ok (l,h,x) w):(Instr.sliceAt t (.slice p n c) lo hi mx).run P w = .ok (.slice (if x = l then p else p.map (·.add (l * z))) (h - l) (x - l)) w:=by
 simp [Instr.sliceAt,Instr.slice,under w hu,hb,hz]
theorem slice_run_arr {t el N:TypeId} (hu:P.underlying t = some (.array N el)) {z:Nat} (hz:(sizeOf el).run P w = .ok z w) (p:Addr) (lo hi mx:Option Value) (l h x:Nat)
 (hb:(Instr.sliceBounds false N N lo hi mx).run P w = .ok (l,h,x) w):(Instr.sliceAt t (.pointer (some p)) lo hi mx).run P w = .ok (.slice (if x = l then some p else (some p).map (·.add (l * z))) (h - l) (x - l)) w:=by
 simp [Instr.sliceAt,under w hu,Instr.sureAddr,hb,hz]
 split <;> rfl
theorem upto_le {i:Int} {n:Nat} (h:inUpto i n = true):i.toNat ≤ n:=by have:=upto_of h;omega
theorem upto_mono {i:Int} {n n':Nat} (h:inUpto i n = true) (hn:n ≤ n'):inUpto i n' = true:=by
 have:=upto_of h
 simp [inUpto];omega
theorem exec_slice {t:TypeId} {x:Operand} {lo hi mx:Option Operand} {v:Value} (h:(Instr.sliceAt t (a.eval x) (bnd lo a) (bnd hi a) (bnd mx a)).run P w = .ok v w) :
 (execOp a.eval ⟨dst,.slice t x lo hi mx,ty,pos,after,guard⟩).run P w = .ok (.value v) w:=by
 have e:∀ (y:Option Operand),y.map a.eval = bnd y a:=fun y => rfl
 simp [execOp,e,h]
theorem slice_core {p p':Option Addr} {n c c':Nat} {lo hi mx:Option Operand} {lo' hi' mx':Option Value} {K:Value → Option R} {L:Nat}
 (hs:St P C.T ρ e m a w) (hlo:opO e lo = some lo') (hhi:opO e hi = some hi') (hmx:opO e mx = some mx') {z:Nat} {arr:Bool}
 (hv:(p = none ∧ p' = none ∧ n = 0 ∧ c = 0 ∧ c' = 0) ∨ ∃ b b',p = some b ∧ p' = some b' ∧ b.block < L ∧ SlOk ρ b b' n c c')
 (hc:arr = true → c' = c) (hnc:n ≤ c') (hcc:c ≤ c')
 (h:sliceK.go p n c z arr K lo' hi' mx' = some r) :
 ∃ v v' l hh xx,K v = some r ∧ VR ρ L v v' ∧ (∀ isS,(Instr.sliceBounds isS n c' (bnd lo a) (bnd hi a) (bnd mx a)).run P w = .ok (l,hh,xx) w) ∧ v' = .slice (if xx = l then p' else p'.map (·.add (l * z))) (hh - l) (xx - l):=by
 have harr:(arr = true ∧ c' = c ∧ c' ≤ c') ∨ (arr = false ∧ c = c ∧ c' = c'):=by
  cases arr
  ·exact .inr ⟨rfl,rfl,rfl⟩
  ·exact .inl ⟨rfl,hc rfl,Nat.le_refl _⟩
 have hp0:∀ (q:Option Addr),(q.map fun a => Mx.plus a (0 * z)) = q:=by
  intro q;cases q <;> simp [Mx.plus]
 have hok:∀ {b:Bool},(sliceK.okZ p z arr && b) = true → (arr = true ∨ sliceK.okZ p z false = true) ∧ b = true:=by
  intro b hb
  simp only [Bool.and_eq_true] at hb
  cases arr
  ·exact ⟨.inr hb.1,hb.2⟩
  ·exact ⟨.inl rfl,hb.2⟩
 unfold sliceK.go at h
 split at h
 ·rw [bnd_none hs hlo,bnd_none hs hhi,bnd_none hs hmx]
  have h1:=VR.resliced (ρ:=ρ) (L:=L) (lo:=0) (h:=n) (x:=c) (x':=c') (z:=z) hv arr (by omega) harr (.inr (.inl rfl)) hnc
  rw [hp0,Nat.sub_zero,Nat.sub_zero] at h1
  exact ⟨_,_,0,n,c',h,h1,fun isS => by simp [Instr.sliceBounds],rfl⟩
 ·rename_i k l
  rw [bnd_int hs hlo,bnd_none hs hhi,bnd_none hs hmx]
  cases hb:(sliceK.okZ p z arr && inUpto l n) with
  | false => rw [hb] at h;simp at h
  | true =>
   rw [hb] at h
   simp only [cond_true] at h
   obtain ⟨h1,h2⟩:=hok hb
   have h3:=VR.resliced (ρ:=ρ) (L:=L) (lo:=l.toNat) (h:=n) (x:=c) (x':=c') (z:=z) hv arr (upto_le h2) harr (by rcases h1 with h1 | h1 <;> first | exact .inl h1 | exact .inr (.inr h1)) hnc
   exact ⟨_,_,l.toNat,n,c',h,h3,fun isS => by simp [Instr.sliceBounds,sb _ _ _ _ h2],rfl⟩
 ·rename_i k hh
  rw [bnd_none hs hlo,bnd_int hs hhi,bnd_none hs hmx]
  cases hb:(inUpto hh c) with
  | false => rw [hb] at h;simp at h
  | true =>
   rw [hb] at h
   simp only [cond_true] at h
   have h2:=upto_mono hb hcc
   have h1:=VR.resliced (ρ:=ρ) (L:=L) (lo:=0) (h:=hh.toNat) (x:=c) (x':=c') (z:=z) hv arr (by omega) harr (.inr (.inl rfl)) (upto_le h2)
   rw [hp0,Nat.sub_zero,Nat.sub_zero] at h1
   exact ⟨_,_,0,hh.toNat,c',h,h1,fun isS => by simp [Instr.sliceBounds,sb _ _ _ _ h2],rfl⟩
 ·rename_i k1 l k2 hh
  rw [bnd_int hs hlo,bnd_int hs hhi,bnd_none hs hmx]
  cases hb:(sliceK.okZ p z arr && inUpto hh c && inUpto l hh.toNat) with
  | false => rw [hb] at h;simp at h
  | true =>
   rw [hb] at h
   simp only [cond_true] at h
   rw [Bool.and_assoc] at hb
   obtain ⟨h1,h2⟩:=hok hb
   simp only [Bool.and_eq_true] at h2
   have h2':=upto_mono h2.1 hcc
   have h3:=VR.resliced (ρ:=ρ) (L:=L) (lo:=l.toNat) (h:=hh.toNat) (x:=c) (x':=c') (z:=z) hv arr (upto_le h2.2) harr (by rcases h1 with h1 | h1 <;> first | exact .inl h1 | exact .inr (.inr h1)) (upto_le h2')
   exact ⟨_,_,l.toNat,hh.toNat,c',h,h3,fun isS => by simp [Instr.sliceBounds,sb _ _ _ _ h2',sb _ _ _ _ h2.2],rfl⟩
 ·rename_i k1 l k2 hh k3 x
  rw [bnd_int hs hlo,bnd_int hs hhi,bnd_int hs hmx]
  cases hb:(inUpto x c && inUpto hh x.toNat && inUpto l hh.toNat) with
  | false => rw [hb] at h;simp at h
  | true =>
   rw [hb] at h
   simp only [cond_true] at h
   simp only [Bool.and_eq_true] at hb
   have h2':=upto_mono hb.1.1 hcc
   have h3:=VR.resliced (ρ:=ρ) (L:=L) (lo:=l.toNat) (h:=hh.toNat) (x:=x.toNat) (x':=x.toNat) (z:=z) hv true (upto_le hb.2) (.inl ⟨rfl,rfl,upto_le h2'⟩) (.inl rfl) (upto_le hb.1.2)
   exact ⟨_,_,l.toNat,hh.toNat,x.toNat,h,h3,fun isS => by simp [Instr.sliceBounds,sb _ _ _ _ h2',sb _ _ _ _ hb.1.2,sb _ _ _ _ hb.2],rfl⟩
 ·rename_i k2 hh k3 x
  rw [bnd_none hs hlo,bnd_int hs hhi,bnd_int hs hmx]
  cases hb:(inUpto x c && inUpto hh x.toNat) with
  | false => rw [hb] at h;simp at h
  | true =>
   rw [hb] at h
   simp only [cond_true] at h
   simp only [Bool.and_eq_true] at hb
   have h2':=upto_mono hb.1 hcc
   have h1:=VR.resliced (ρ:=ρ) (L:=L) (lo:=0) (h:=hh.toNat) (x:=x.toNat) (x':=x.toNat) (z:=z) hv true (by omega) (.inl ⟨rfl,rfl,upto_le h2'⟩) (.inl rfl) (upto_le hb.2)
   rw [hp0,Nat.sub_zero,Nat.sub_zero] at h1
   exact ⟨_,_,0,hh.toNat,x.toNat,h,h1,fun isS => by simp [Instr.sliceBounds,sb _ _ _ _ h2',sb _ _ _ _ hb.2],rfl⟩
 ·simp at h
theorem op_slice (hs:St P C.T ρ e m a w) {t:TypeId} {x:Operand} {lo hi mx:Option Operand} (h:oper C (.slice t x lo hi mx) e m K = some r):∃ v m',K v m' = some r ∧ Did P a ⟨dst,.slice t x lo hi mx,ty,pos,after,guard⟩ ρ m w v m':=by
 simp only [oper] at h
 split at h
 ·rename_i xv lo' hi' mx' hx hlo hhi hmx
  have hx':=opnd_sound hs.env hx
  unfold sliceK at h
  split at h
  ·rename_i s hd
   have ht:=hs.tok t (by rw [hd];simp)
   have hdd:=ht.desc
   rw [hd] at hdd
   have hx2:=hx'.str_inv
   have fin:∀ (l hh xx:Nat),(Instr.sliceBounds false s.size s.size (bnd lo a) (bnd hi a) none).run P w = .ok (l,hh,xx) w → mx' = none → K (.string (s.extract l hh)) m = some r →
    ∃ v m',K v m' = some r ∧ Did P a ⟨dst,.slice t x lo hi mx,ty,pos,after,guard⟩ ρ m w v m':=by
    intro l hh xx hb hm hK
    subst hm
    refine ⟨_,m,hK,.here hs.mem (v':=.string (s.extract l hh)) (exec_slice ?_) (.str _)⟩
    rw [bnd_none hs hmx,hx2]
    simp [Instr.sliceAt,Instr.slice,under w hdd,hb]
   split at h
   ·exact fin 0 s.size s.size (by rw [bnd_none hs hlo,bnd_none hs hhi];simp [Instr.sliceBounds]) rfl h
   ·rename_i k l
    cases hb:inUpto l s.size with
    | false => rw [hb] at h;simp at h
    | true =>
     rw [hb] at h
     exact fin l.toNat s.size s.size (by rw [bnd_int hs hlo,bnd_none hs hhi];simp [Instr.sliceBounds,sb _ _ _ _ hb]) rfl h
   ·rename_i k hh
    cases hb:inUpto hh s.size with
    | false => rw [hb] at h;simp at h
    | true =>
     rw [hb] at h
     exact fin 0 hh.toNat s.size (by rw [bnd_none hs hlo,bnd_int hs hhi];simp [Instr.sliceBounds,sb _ _ _ _ hb]) rfl h
   ·rename_i k1 l k2 hh
    cases hb:(inUpto hh s.size && inUpto l hh.toNat) with
    | false => rw [hb] at h;simp at h
    | true =>
     rw [hb] at h
     simp only [Bool.and_eq_true] at hb
     exact fin l.toNat hh.toNat s.size (by rw [bnd_int hs hlo,bnd_int hs hhi];simp [Instr.sliceBounds,sb _ _ _ _ hb.1,sb _ _ _ _ hb.2]) rfl h
   ·simp at h
  ·rename_i el p n c hd
   have ht:=hs.tok t (by rw [hd];simp)
   have hdd:=ht.desc
   rw [hd] at hdd
   have hsz:=(hs.tok el hdd.2).size w
   rcases hx'.sl_inv with ⟨rfl,rfl,rfl,hx2⟩ | ⟨b,b',c',rfl,hx2,h3,h4⟩
   ·obtain ⟨v,v',l,hh,xx,h5,h6,h7,rfl⟩:=slice_core (p':=none) (c':=0) (L:=m.length) hs hlo hhi hmx (.inl ⟨rfl,rfl,rfl,rfl,rfl⟩) (fun _ => rfl) (Nat.le_refl _) (Nat.le_refl _) h
    exact ⟨v,m,h5,.here hs.mem (exec_slice (by rw [hx2];exact slice_run hdd.1 hsz _ _ _ _ _ _ _ _ _ (h7 true))) h6⟩
   ·obtain ⟨v,v',l,hh,xx,h5,h6,h7,rfl⟩:=slice_core (p':=some b') (c':=c') (L:=m.length) hs hlo hhi hmx (.inr ⟨b,b',rfl,rfl,h3,h4⟩) (by simp) h4.2.1 (by
     cases hsp:b.spot with
     | none => have:=h4.2.2.1 hsp;omega
     | some y => exact (h4.2.2.2 y hsp).1) h
    exact ⟨v,m,h5,.here hs.mem (exec_slice (by rw [hx2];exact slice_run hdd.1 hsz _ _ _ _ _ _ _ _ _ (h7 true))) h6⟩
  ·rename_i n el b hd
   have ht:=hs.tok t (by rw [hd];simp)
   have hdd:=ht.desc
   rw [hd] at hdd
   have hsz:=(hs.tok el hdd.2).size w
   obtain ⟨hx2,hlt⟩:=hx'.ptr_inv
   have h0:sliceK.go (some b) n n (C.T el).size true (fun v => K v m) lo' hi' mx' = sliceK.go (some ⟨b.block,b.off,none⟩) n n (C.T el).size true (fun v => K v m) lo' hi' mx':=rfl
   rw [h0] at h
   obtain ⟨v,v',l,hh,xx,h5,h6,h7,rfl⟩:=slice_core (p':=some (toR ρ b)) (c':=n) (L:=m.length) hs hlo hhi hmx (.inr ⟨⟨b.block,b.off,none⟩,toR ρ b,rfl,rfl,hlt,.inr rfl,Nat.le_refl _,fun _ => rfl,fun z hz => by simp at hz⟩) (fun _ => rfl) (Nat.le_refl _) (Nat.le_refl _) h
   exact ⟨v,m,h5,.here hs.mem (exec_slice (by rw [hx2];exact slice_run_arr hdd.1 hsz _ _ _ _ _ _ _ (h7 false))) h6⟩
  ·simp at h
 ·simp at h
end
end Go.Mx
set_option linter.unusedVariables false
set_option linter.unusedSimpArgs false
namespace Go.Mx
theorem foldl_put:∀ (vs:List Value) (off j:Nat) (cells:Array Value),off + j + vs.length ≤ cells.size →
 ((vs.zipIdx j).foldl (fun (cs:Array Value) (x:Value × Nat) => cs.setIfInBounds (off + x.2) x.1) cells).toList = cells.toList.take (off + j) ++ vs ++ cells.toList.drop (off + j + vs.length)
 | [],off,j,cells,h => by simp
 | v :: vs,off,j,cells,h => by
  simp only [List.length_cons] at h
  rw [List.zipIdx_cons,List.foldl_cons,foldl_put vs off (j + 1) _ (by simp;omega)]
  rw [Array.toList_setIfInBounds]
  have:=seg_step cells.toList (off + j) v vs (by simp;omega)
  rw [List.length_cons,show off + (j + 1) = off + j + 1 by omega]
  exact this
theorem fill_put {place:Nat → Option (Nat × Nat)} {cells:Array Value} {i off size:Nat} {v:Value} {rest:List (Nat × Value)} (hp:place i = some (off,size)) (hv:v.cells.size = size) (hle:off + size ≤ cells.size) :
 Instr.fill place cells ((i,v) :: rest) = Instr.fill place ⟨putAt cells.toList off size v.cells.toList⟩ rest:=by
 have e:((v.cells.zipIdx).foldl (fun (cs:Array Value) (x:Value × Nat) => cs.setIfInBounds (off + x.2) x.1) cells) = ⟨putAt cells.toList off size v.cells.toList⟩:=by
  apply Array.toList_inj.1
  rw [← Array.foldl_toList,Array.toList_zipIdx]
  have:=foldl_put v.cells.toList off 0 cells (by simpa [hv] using hle)
  simp only [Nat.add_zero] at this
  rw [this]
  simp [putAt,hv]
 have h1:¬ (off + v.cells.size > cells.size):=by omega
 have h2:(decide (v.cells.size ≠ size) || decide (off + v.cells.size > cells.size)) = false:=by simp [hv];omega
 rw [Instr.fill,hp]
 simp only
 have e2:(v.cells.zipIdx.foldl (fun cs (c,j) => cs.setIfInBounds (off + j) c) cells) = ⟨putAt cells.toList off size v.cells.toList⟩:=e
 rw [e2]
 simp [hv]
 omega
theorem putAt_length {cs vs:List Value} {i n:Nat} (h:i + n ≤ cs.length) (hv:vs.length = n):(putAt cs i n vs).length = cs.length:=by
 simp [putAt,hv];omega
theorem VRs.putAt {ρ L cs cs' vs vs'} (i n:Nat) (h:VRs ρ L cs cs') (hv:VRs ρ L vs vs'):VRs ρ L (putAt cs i n vs) (Mx.putAt cs' i n vs') :=
 ((h.take i).append hv).append (h.drop (i + n))
section
variable {P:Program} {R:Type} {C:Ctx R} {ρ:Rn} {e:Env} {m:Mem} {a:Act} {w:World} {r:R} {K:Value → Mem → Option R}
 {dst:Option Tmp} {ty:TypeId} {pos:String} {after:Array Edge} {guard:Option (Nat × Bool)}
theorem CL.len {T:TT} {t:Nat} {cs:List Value} (hT:TOk P T) (hne:(T t).d ≠ .other) (h:CL T t cs):cs.length = (T t).size:=by
 rcases h with h | ⟨h1,h2⟩
 ·exact h
 ·rw [h2,(hT t hne).one h1]
theorem fillS_sound {T:TT} (hT:TOk P T) {L:Nat} (he:EnvR ρ L e a.tmps) {fs:List (Nat × Nat)} {N:Nat} {place:Nat → Option (Nat × Nat)}
 (hplace:∀ (i:Nat) t off,fs[i]? = some (t,off) → place i = some (off,(T t).size)) :
 ∀ (ps:List (Nat × Operand)) (cs cs':List Value) (K:List Value → Option R),fillS T fs e N ps cs K = some r → VRs ρ L cs cs' → cs.length = N →
  ∃ out out',K out = some r ∧ VRs ρ L out out' ∧ out.length = N ∧ Instr.fill place ⟨cs'⟩ (ps.map fun x => (x.1,a.eval x.2)) = some ⟨out'⟩
 | [],cs,cs',K,h,hv,hN => ⟨cs,cs',h,hv,hN,rfl⟩
 | (i,x) :: ps,cs,cs',K,h,hv,hN => by
  simp only [fillS,gN_eq] at h
  split at h
  ·rename_i t off v hf hx
   have hx':=opnd_sound he hx
   obtain ⟨hne,vs,vs',h1,h2,h3,h4⟩:=cellsT_sound h hx'
   have hlen:=h4.len hT hne
   cases hb:Nat.ble (off + (T t).size) N with
   | false => rw [hb] at h1;simp at h1
   | true =>
    rw [hb] at h1
    simp only [cond_true] at h1
    have hle:=Nat.le_of_ble_eq_true hb
    have hsz:(a.eval x).cells.size = (T t).size:=by rw [← Array.length_toList,h3,← h2.len,hlen]
    obtain ⟨out,out',h5,h6,h7,h8⟩:=fillS_sound hT he hplace ps _ _ K h1 (hv.putAt off (T t).size h2) (by rw [putAt_length (by omega) hlen,hN])
    refine ⟨out,out',h5,h6,h7,?_⟩
    rw [List.map_cons,fill_put (hplace i t off hf) hsz (by simp [← hv.len,hN];exact hle),h3]
    exact h8
  ·simp at h
theorem fillA_sound {T:TT} (hT:TOk P T) {L:Nat} (he:EnvR ρ L e a.tmps) {el:Nat} {N:Nat} {place:Nat → Option (Nat × Nat)}
 (hplace:∀ (i:Nat),place i = some (i * (T el).size,(T el).size)) :
 ∀ (ps:List (Nat × Operand)) (cs cs':List Value) (K:List Value → Option R),fillA T el e N ps cs K = some r → VRs ρ L cs cs' → cs.length = N →
  ∃ out out',K out = some r ∧ VRs ρ L out out' ∧ out.length = N ∧ Instr.fill place ⟨cs'⟩ (ps.map fun x => (x.1,a.eval x.2)) = some ⟨out'⟩
 | [],cs,cs',K,h,hv,hN => ⟨cs,cs',h,hv,hN,rfl⟩
 | (i,x) :: ps,cs,cs',K,h,hv,hN => by
  simp only [fillA,gN_eq] at h
  split at h
  ·rename_i v hx
   have hx':=opnd_sound he hx
   obtain ⟨hne,vs,vs',h1,h2,h3,h4⟩:=cellsT_sound h hx'
   have hlen:=h4.len hT hne
   cases hb:Nat.ble (i * (T el).size + (T el).size) N with
   | false => rw [hb] at h1;simp at h1
   | true =>
    rw [hb] at h1
    simp only [cond_true] at h1
    have hle:=Nat.le_of_ble_eq_true hb
    have hsz:(a.eval x).cells.size = (T el).size:=by rw [← Array.length_toList,h3,← h2.len,hlen]
    obtain ⟨out,out',h5,h6,h7,h8⟩:=fillA_sound hT he hplace ps _ _ K h1 (hv.putAt _ (T el).size h2) (by rw [putAt_length (by omega) hlen,hN])
    refine ⟨out,out',h5,h6,h7,?_⟩
    rw [List.map_cons,fill_put (hplace i) hsz (by simp [← hv.len,hN];exact hle),h3]
    exact h8
  ·simp at h
theorem mapM_run {α β:Type} (f:α → Sem β) (g:α → β):∀ (l:List α),(∀ x ∈ l,(f x).run P w = .ok (g x) w) → (l.mapM f).run P w = .ok (l.map g) w
 | [],_ => by simp
 | x :: l,h => by
  rw [List.mapM_cons]
  simp [h x (by simp),mapM_run f g l (fun y hy => h y (by simp [hy]))]
theorem op_build (hs:St P C.T ρ e m a w) {t:TypeId} {ps:Array (Nat × Operand)} (h:oper C (.build t ps) e m K = some r):∃ v m',K v m' = some r ∧ Did P a ⟨dst,.build t ps,ty,pos,after,guard⟩ ρ m w v m':=by
 simp only [oper] at h
 split at h
 ·rename_i fs hd
  have ht:=hs.tok t (by rw [hd];simp)
  have hdd:=ht.desc
  rw [hd] at hdd
  obtain ⟨fields,hu,hmap,hall⟩:=hdd
  obtain ⟨z,hz,hz2⟩:=ht.zero w
  have hplaces:(fields.mapM fun f => do pure (f.offset,← sizeOf f.type):Sem (Array (Nat × Nat))).run P w = .ok ((fields.toList.map fun f => (f.offset,(C.T f.type).size)).toArray) w:=by
   rw [Array.mapM_eq_mapM_toList]
   simp only [Sem.run_map]
   rw [mapM_run (P:=P) (w:=w) _ (fun f => (f.offset,(C.T f.type).size))]
   ·simp
   ·intro f hf
    have:(f.type,f.offset) ∈ fs:=by rw [← hmap];exact List.mem_map.2 ⟨f,hf,rfl⟩
    have h1:=(hs.tok f.type (hall _ this)).size w
    simp [h1]
  obtain ⟨out,out',h1,h2,h3,h4⟩:=fillS_sound (P:=P) (place:=fun i => (fields.toList.map fun f => (f.offset,(C.T f.type).size)).toArray[i]?) hs.tok hs.env (by
   intro i t' off hi
   rw [← hmap,List.getElem?_map] at hi
   obtain ⟨fd,hfd,hfd2⟩:=Option.map_eq_some_iff.1 hi
   simp only [Prod.mk.injEq] at hfd2
   obtain ⟨rfl,rfl⟩:=hfd2
   simp [hfd]) _ _ _ _ h (VRs.plain (ρ:=ρ) (L:=m.length) ht.plain) ht.zlen
  refine ⟨_,m,h1,.here hs.mem (v':=.agg ⟨out'⟩) ?_ (VR.agg_iff.2 h2)⟩
  have e1:z.cells = ⟨(C.T t).zero⟩:=by apply Array.toList_inj.1;exact hz2
  have e2:(ps.map fun x => (x.1,a.eval x.2)).toList = ps.toList.map fun x => (x.1,a.eval x.2):=by simp
  simp only [execOp,Instr.build,Sem.run_bind,hz,Result.andThen_ok,under w hu,hplaces,e1]
  rw [show (ps.map fun (x:Nat × Operand) => match x with | (i,x) => (i,a.eval x)) = ps.map fun x => (x.1,a.eval x.2) from rfl,e2,h4]
  rfl
 ·rename_i n el hd
  have ht:=hs.tok t (by rw [hd];simp)
  have hdd:=ht.desc
  rw [hd] at hdd
  obtain ⟨z,hz,hz2⟩:=ht.zero w
  have hsz:=(hs.tok el hdd.2).size w
  obtain ⟨out,out',h1,h2,h3,h4⟩:=fillA_sound (P:=P) (place:=fun i => some (i * (C.T el).size,(C.T el).size)) hs.tok hs.env (fun i => rfl) _ _ _ _ h (VRs.plain (ρ:=ρ) (L:=m.length) ht.plain) ht.zlen
  refine ⟨_,m,h1,.here hs.mem (v':=.agg ⟨out'⟩) ?_ (VR.agg_iff.2 h2)⟩
  have e1:z.cells = ⟨(C.T t).zero⟩:=by apply Array.toList_inj.1;exact hz2
  have e2:(ps.map fun x => (x.1,a.eval x.2)).toList = ps.toList.map fun x => (x.1,a.eval x.2):=by simp
  simp only [execOp,Instr.build,Sem.run_bind,hz,Result.andThen_ok,under w hdd.1,hsz,e1]
  rw [show (ps.map fun (x:Nat × Operand) => match x with | (i,x) => (i,a.eval x)) = ps.map fun x => (x.1,a.eval x.2) from rfl,e2,h4]
  rfl
 ·simp at h
theorem op_buildSlice (hs:St P C.T ρ e m a w) {t:TypeId} {n:Nat} {ps:Array (Nat × Operand)} (h:oper C (.buildSlice t n ps) e m K = some r):∃ v m',K v m' = some r ∧ Did P a ⟨dst,.buildSlice t n ps,ty,pos,after,guard⟩ ρ m w v m':=by
 simp only [oper] at h
 split at h
 ·rename_i el hd
  have ht:=hs.tok t (by rw [hd];simp)
  have hdd:=ht.desc
  rw [hd] at hdd
  have hte:=hs.tok el hdd.2
  obtain ⟨z,hz,hz2⟩:=hte.zero w
  have hsz:=hte.size w
  cases hb:Nat.ble (n * (C.T el).size) 16777216 with
  | false => rw [hb] at h;simp at h
  | true =>
   rw [hb] at h
   simp only [cond_true] at h
   have hle:=Nat.le_of_ble_eq_true hb
   obtain ⟨out,out',h1,h2,h3,h4⟩:=fillA_sound (P:=P) (place:=fun i => some (i * (C.T el).size,(C.T el).size)) hs.tok hs.env (fun i => rfl) _ _ _ _ h (VRs.plain (ρ:=ρ) (L:=m.length) (repl_plain (n:=n) hte.plain)) (by rw [repl_length,hte.zlen])
   obtain ⟨ρ',h5,h6,h7,_⟩:=new_obj hs.mem h2 el
   refine ⟨_,_,h1,.slice (some ⟨w.heap.size,0,none⟩) n n,_,ρ',.inl ?_,VR.newSl h7 (Nat.le_refl _),h5,h6⟩
   have e1:z.cells = ⟨(C.T el).zero⟩:=by apply Array.toList_inj.1;exact hz2
   have e2:(ps.map fun x => (x.1,a.eval x.2)).toList = ps.toList.map fun x => (x.1,a.eval x.2):=by simp
   have e3:(Array.range (n * (C.T el).size)).map (((⟨(C.T el).zero⟩:Array Value))[· % (⟨(C.T el).zero⟩:Array Value).size]!) = ⟨repl n (C.T el).zero⟩:=by
    apply Array.toList_inj.1
    have:=repl_range n ⟨(C.T el).zero⟩
    rw [← this]
    simp [hte.zlen]
   have hn:¬ (n * (C.T el).size > 2 ^ 24):=by omega
   simp only [execOp,Instr.buildSlice,Sem.run_bind,under w hdd.1,Result.andThen_ok,hsz,if_neg hn,Sem.run_pure]
   by_cases h0:n * (C.T el).size = 0
   ·simp only [if_pos h0,Sem.run_bind,Sem.run_pure,Result.andThen_ok]
    have e4:(Array.range (n * (C.T el).size)).map ((#[]:Array Value)[· % (#[]:Array Value).size]!) = ⟨repl n (C.T el).zero⟩:=by
     apply Array.toList_inj.1
     rw [h0]
     have:(repl n (C.T el).zero) = []:=by
      apply List.eq_nil_of_length_eq_zero;rw [repl_length,hte.zlen,h0]
     rw [this];simp
    rw [e4,show (ps.map fun (x:Nat × Operand) => match x with | (i,x) => (i,a.eval x)) = ps.map fun x => (x.1,a.eval x.2) from rfl,e2,h4]
    rfl
   ·simp only [if_neg h0,Sem.run_bind,hz,Result.andThen_ok,Sem.run_pure,e1]
    rw [e3,show (ps.map fun (x:Nat × Operand) => match x with | (i,x) => (i,a.eval x)) = ps.map fun x => (x.1,a.eval x.2) from rfl,e2,h4]
    rfl
 ·simp at h
end
end Go.Mx
set_option linter.unusedVariables false
set_option linter.unusedSimpArgs false
namespace Go.Mx
theorem storeCells_real {P:Program} {b o:Nat} {elem:TypeId} {fr:Nat × Nat}:∀ (vs:List Value) (i:Nat) (real:List Value) (w:World),w.heap[b]? = some (.cells ⟨real⟩ elem fr) →
 (∀ j,j < real.length → (decide (fr.1 ≤ j) && decide (j < fr.2)) = false) → o + i + vs.length ≤ real.length → (∀ v ∈ vs,v.oneCell' = true) →
 ∃ w',(Go.storeCells ⟨b,o,none⟩ vs i).run P w = .ok () w' ∧ w'.heap[b]? = some (.cells ⟨real.take (o + i) ++ vs ++ real.drop (o + i + vs.length)⟩ elem fr) ∧
  (∀ b',b' ≠ b → w'.heap[b']? = w.heap[b']?) ∧ w'.heap.size = w.heap.size ∧ w'.tape = w.tape ∧ w'.os = w.os ∧ w'.output = w.output
 | [],i,real,w,hb,hf,hl,h1 => ⟨w,rfl,by simp [hb],fun _ _ => rfl,rfl,rfl,rfl,rfl⟩
 | v :: vs,i,real,w,hb,hf,hl,h1 => by
  simp only [List.length_cons] at hl
  have hor:o + i < real.length:=by omega
  have hcell:w.cell? ⟨b,o + i,none⟩ = some real[o + i]:=by simp [World.cell?,hb,hor]
  have hfr:w.frozen? ⟨b,o + i,none⟩ = false:=by simp only [World.frozen?,hb];exact hf _ hor
  have hheap:(w.setCell ⟨b,o + i,none⟩ v).heap = w.heap.modify b fun
   | .cells c elem frozen => .cells (c.setIfInBounds (o + i) v) elem frozen
   | o => o:=rfl
  have hb1:(w.setCell ⟨b,o + i,none⟩ v).heap[b]? = some (.cells ⟨real.set (o + i) v⟩ elem fr):=by
   rw [hheap,Array.getElem?_modify,if_pos rfl,hb];simp
  obtain ⟨w',h2,h3,h4,h5,h6,h7,h8⟩:=storeCells_real (P:=P) (o:=o) vs (i + 1) (real.set (o + i) v) _ hb1 (by simpa using hf) (by simp;omega) (fun x hx => h1 x (by simp [hx]))
  refine ⟨w',?_,?_,?_,?_,h6,h7,h8⟩
  ·have hst:(store (⟨b,o + i,none⟩:Addr) v).run P w = .ok () (w.setCell ⟨b,o + i,none⟩ v):=by
    rw [run_store P w _ v .plain (h1 v (by simp)),hcell]
    simp [hfr]
   rw [Go.storeCells,add_none,Sem.run_bind,hst]
   exact h2
  ·rw [h3]
   have:=seg_step real (o + i) v vs (by omega)
   rw [show o + (i + 1) = o + i + 1 by omega,List.length_cons,this]
  ·intro b' hb'
   rw [h4 b' hb',hheap,Array.getElem?_modify,if_neg (fun h => hb' h.symm)]
  ·rw [h5,hheap];simp
theorem MRep.killO {ρ m w} (h:MRep ρ m w) (n:Nat) {o:MObj} (ho:o = .dead ∨ ∃ cs cs0 q,o = .old cs q ∧ m[n]? = some (.live cs0) ∧ cs = cs0.take cs.length):MRep ρ (m.set n o) w ∧ Evo ρ m w ρ (m.set n o) w:=by
 have hnl:∀ c,o ≠ .live c:=by rcases ho with rfl | ⟨_,_,_,rfl,_⟩ <;> intro c h <;> cases h
 have hall:∀ (i:Nat) c,(m.set n o)[i]? = some (MObj.live c) → i ≠ n ∧ m[i]? = some (MObj.live c):=by
  intro i c hi
  rw [List.getElem?_set] at hi
  split at hi
  ·split at hi
   ·simp only [Option.some.injEq] at hi;exact absurd hi (hnl _)
   ·simp at hi
  ·rename_i hne
   exact ⟨fun h => hne h.symm,hi⟩
 refine ⟨⟨fun i c hi => ?_,fun i i' c c' hi hi' he => h.inj i i' c c' (hall _ _ hi).2 (hall _ _ hi').2 he,fun i c hi => ?_⟩,⟨fun _ _ => ⟨rfl,rfl,rfl⟩,by simp,Nat.le_refl _,fun _ _ _ => rfl,fun i c hi => .inl ⟨i,c,(hall _ _ hi).2,rfl⟩,?_,rfl,rfl,rfl⟩⟩
 ·obtain ⟨real,elem,fr,h1⟩:=h.live i c (hall _ _ hi).2
  refine ⟨real,elem,fr,?_⟩
  simpa using h1
 ·by_cases hin:i = n
  ·subst hin
   rcases ho with rfl | ⟨cs,cs0,q,rfl,h1,h2⟩
   ·exfalso
    rcases hi with hi | ⟨q,hi,_⟩ <;> rw [List.getElem?_set,if_pos rfl] at hi <;> split at hi <;> cases hi
   ·have hlt:=lt_of_get h1
    have hc:c = cs:=by
     rcases hi with hi | ⟨q',hi,_⟩ <;> simp [hlt] at hi
     exact hi.1.symm
    subst hc
    obtain ⟨real,elem,fr,a1,a2,a3,a4,a5,a6⟩:=h.live i cs0 h1
    refine ⟨h.blk_lt h1,fun n' c' hn' he => ?_,?_⟩
    ·have:=hall _ _ hn'
     exact this.1 (h.inj n' i c' cs0 this.2 h1 he)
    ·have h7:=a6.take c.length
     rw [← h2] at h7
     refine ⟨_,by simpa using h7,fun j v hj => ?_⟩
     rw [List.getElem?_take] at hj
     split at hj
     ·rw [List.getElem?_take] at hj
      split at hj
      ·rw [List.getElem?_drop] at hj
       simp [World.cell?,a1,hj]
      ·simp at hj
     ·simp at hj
  ·obtain ⟨o1,ho1,_⟩:=hi.get
   rw [List.getElem?_set,if_neg (fun h => hin h.symm)] at ho1
   obtain ⟨a,b,d⟩:=h.ro i c (hi.back (by simp) (fun _ _ => ⟨rfl,rfl⟩) (lt_of_get ho1) fun o ho _ => by rw [List.getElem?_set,if_neg (fun h => hin h.symm)] at ho;exact ho)
   refine ⟨a,fun n' c' hn' => b n' c' (hall _ _ hn').2,?_⟩
   simpa using d
 ·rintro b ⟨i,c,hi,rfl⟩
  rcases hi with hi | hi
  ·exact .inl ⟨i,c,.inl (hall _ _ hi).2,rfl⟩
  ·by_cases hin:i = n
   ·subst hin
    rcases ho with rfl | ⟨cs,cs0,q,rfl,h1,h2⟩
    ·exfalso
     rcases hi with hi | ⟨q,hi,_⟩ <;> rw [List.getElem?_set,if_pos rfl] at hi <;> split at hi <;> cases hi
    ·exact .inl ⟨i,cs0,.inl h1,rfl⟩
   ·obtain ⟨o1,ho1,_⟩:=hi.get
    rw [List.getElem?_set,if_neg (fun h => hin h.symm)] at ho1
    exact .inl ⟨i,c,.inr (hi.back (by simp) (fun _ _ => ⟨rfl,rfl⟩) (lt_of_get ho1) fun o ho _ => by rw [List.getElem?_set,if_neg (fun h => hin h.symm)] at ho;exact ho),rfl⟩
theorem MRep.move {ρ m w} (h:MRep ρ m w) {b:Nat} {c:List Value} (hb:m[b]? = some (.live c)) (off:Nat) (hoff:off ≤ c.length) (co:List Value) :
 MRep (ρ.updS m.length (ρ.blk b) (ρ.sz b) (ρ.sh b + off)) (m.set b (bif Nat.beq off 0 then .old co m.length else .dead) ++ [.live (c.drop off)]) w ∧ Evo ρ m w (ρ.updS m.length (ρ.blk b) (ρ.sz b) (ρ.sh b + off)) (m.set b (bif Nat.beq off 0 then .old co m.length else .dead) ++ [.live (c.drop off)]) w:=by
 have hag:=Rn.updS_agree ρ m.length (ρ.blk b) (ρ.sz b) (ρ.sh b + off)
 have hblt:b < m.length:=by
  rcases Nat.lt_or_ge b m.length with h | h
  ·exact h
  ·simp [List.getElem?_eq_none h] at hb
 have hself:(ρ.updS m.length (ρ.blk b) (ρ.sz b) (ρ.sh b + off)).blk m.length = ρ.blk b:=by simp [Rn.updS]
 have hself':(ρ.updS m.length (ρ.blk b) (ρ.sz b) (ρ.sh b + off)).sz m.length = ρ.sz b:=by simp [Rn.updS]
 have hget:∀ (n:Nat) cs,(m.set b (bif Nat.beq off 0 then .old co m.length else .dead) ++ [MObj.live (c.drop off)])[n]? = some (MObj.live cs) → (n < m.length ∧ n ≠ b ∧ m[n]? = some (MObj.live cs)) ∨ (n = m.length ∧ cs = c.drop off):=by
  intro n cs hn
  rw [getElem?_snoc,List.length_set] at hn
  split at hn
  ·rename_i hlt
   rw [List.getElem?_set] at hn
   split at hn
   ·cases h0:Nat.beq off 0 <;> simp [h0] at hn
   ·rename_i hne
    exact .inl ⟨hlt,fun h => hne h.symm,hn⟩
  ·split at hn
   ·rename_i h2
    simp at hn
    exact .inr ⟨h2,hn.symm⟩
   ·simp at hn
 have hself2:(ρ.updS m.length (ρ.blk b) (ρ.sz b) (ρ.sh b + off)).sh m.length = ρ.sh b + off:=by simp [Rn.updS]
 have hlen:m.length ≤ (m.set b (bif Nat.beq off 0 then .old co m.length else .dead) ++ [MObj.live (c.drop off)]).length:=by simp
 have hro:∀ n cs,IsRo (ρ.updS m.length (ρ.blk b) (ρ.sz b) (ρ.sh b + off)) (m.set b (bif Nat.beq off 0 then .old co m.length else .dead) ++ [MObj.live (c.drop off)]) n cs → n < m.length ∧ IsRo ρ m n cs:=by
  intro n cs hn
  obtain ⟨o,ho1,ho2⟩:=hn.get
  have hq:=ho1
  rw [getElem?_snoc,List.length_set] at hq
  split at hq
  ·rename_i hlt
   by_cases hnb:b = n
   ·exfalso
    subst hnb
    rcases hn with hn | ⟨q,hn,hna⟩ <;> rw [getElem?_snoc,List.length_set,if_pos hlt,List.getElem?_set,if_pos rfl,if_pos hlt] at hn
    ·cases h0:Nat.beq off 0 <;> rw [h0] at hn <;> simp at hn
    ·cases h0:Nat.beq off 0 <;> rw [h0] at hn <;> simp at hn
     obtain ⟨_,rfl⟩:=hn
     have:=Nat.eq_of_beq_eq_true h0
     subst this
     exact hna ⟨by simp,by rw [hself,(hag b hlt).blk],by rw [hself2,(hag b hlt).sh];rfl⟩
   ·exact ⟨hlt,hn.back (by simp) (fun n hn => ⟨(hag n hn).blk,(hag n hn).sh⟩) hlt fun o ho _ => by
     rw [getElem?_snoc,List.length_set,if_pos hlt,List.getElem?_set,if_neg hnb] at ho;exact ho⟩
  ·split at hq
   ·simp only [Option.some.injEq] at hq;exact absurd hq.symm (ho2 _)
   ·simp at hq
 refine ⟨⟨fun n cs hn => ?_,fun n n' cs cs' hn hn' he => ?_,fun n cs hn => ?_⟩,⟨hag,hlen,Nat.le_refl _,fun _ _ _ => rfl,fun n cs hn => ?_,?_,rfl,rfl,rfl⟩⟩
 ·rcases hget n cs hn with ⟨h1,h2,h3⟩ | ⟨rfl,rfl⟩
  ·obtain ⟨real,elem,fr,a1,a2,a3,a4,a5,a6⟩:=h.live n cs h3
   exact ⟨real,elem,fr,by rw [(hag n h1).blk];exact a1,by rw [(hag n h1).sz];exact a2,by rw [(hag n h1).sh];exact a3,a4,a5,by rw [(hag n h1).sh];exact a6.mono hag hlen⟩
  ·obtain ⟨real,elem,fr,a1,a2,a3,a4,a5,a6⟩:=h.live b c hb
   refine ⟨real,elem,fr,by rw [hself];exact a1,by rw [hself'];exact a2,by rw [hself2,List.length_drop];omega,a4,a5,?_⟩
   have:=(a6.drop off).mono hag hlen
   rw [List.drop_take,List.drop_drop] at this
   rw [hself2,List.length_drop];exact this
 ·rcases hget n cs hn with ⟨h1,h2,h3⟩ | ⟨rfl,rfl⟩ <;> rcases hget n' cs' hn' with ⟨h1',h2',h3'⟩ | ⟨h1',h2'⟩
  ·rw [(hag n h1).blk,(hag n' h1').blk] at he
   exact h.inj n n' cs cs' h3 h3' he
  ·subst h1'
   rw [(hag n h1).blk,hself] at he
   exact absurd (h.inj n b cs c h3 hb he) h2
  ·rw [hself,(hag n' h1').blk] at he
   exact absurd (h.inj n' b cs' c h3' hb he.symm) h2'
  ·exact h1'.symm
 ·have hn2:=hro n cs hn
  have hr:=h.ro n cs hn2.2
  obtain ⟨b1,b2⟩:=ro_keep hr hn2.1 hag hlen rfl (Nat.le_refl _)
  refine ⟨b1,fun n' c' hn' => ?_,b2⟩
  rw [(hag n hn2.1).blk]
  rcases hget n' c' hn' with ⟨h1,h2,h3⟩ | ⟨rfl,rfl⟩
  ·rw [(hag n' h1).blk];exact hr.2.1 n' c' h3
  ·rw [hself];exact hr.2.1 b c hb
 ·rcases hget n cs hn with ⟨h1,h2,h3⟩ | ⟨rfl,rfl⟩
  ·exact .inl ⟨n,cs,h3,(hag n h1).blk⟩
  ·exact .inl ⟨b,c,hb,hself⟩
 ·rintro b' ⟨n,cs,hn,rfl⟩
  rcases hn with hn | hn
  ·rcases hget n cs hn with ⟨h1,h2,h3⟩ | ⟨rfl,rfl⟩
   ·exact .inl ⟨n,cs,.inl h3,(hag n h1).blk.symm⟩
   ·exact .inl ⟨b,c,.inl hb,hself.symm⟩
  ·have:=hro n cs hn
   exact .inl ⟨n,cs,.inr this.2,(hag n this.1).blk.symm⟩
section
variable {P:Program} {R:Type} {C:Ctx R} {ρ:Rn} {e:Env} {m:Mem} {a:Act} {w:World} {r:R} {K:Value → Mem → Option R}
 {dst:Option Tmp} {ty:TypeId} {pos:String} {after:Array Edge} {guard:Option (Nat × Bool)}
theorem rdSl_ld {m:Mem} {b:Addr} {n z:Nat} {old:List Value} (h:ldCells m b (n * z) = some old):rdSl m (some b) n z = some old:=by
 unfold rdSl
 by_cases h0:n * z = 0
 ·simp only [if_pos h0]
  rw [h0] at h
  simp only [ldCells,Option.bind_eq_some_iff] at h
  obtain ⟨cs,_,h⟩:=h
  unfold cCells at h
  split at h
  ·simpa using h
  ·simp at h
 ·simp only [if_neg h0];exact h
theorem rdSl_sound (hm:MRep ρ m w) {p:Option Addr} {n z:Nat} {new:List Value} {x':Value} {l c:Nat} (h:rdSl m p n z = some new) (hx:VR ρ m.length (.slice p l c) x') (hn:n ≤ l) :
 ∃ new',(∀ w',w'.heap = w.heap → (Builtin.firstCells z n x').run P w' = .ok ⟨new'⟩ w') ∧ VRs ρ m.length new new' ∧ new.length = n * z:=by
 rcases hx.sl_inv with ⟨rfl,rfl,rfl,rfl⟩ | ⟨b,b',c',rfl,rfl,h3,h4⟩
 ·simp only [rdSl] at h
  split at h
  ·rename_i h0;subst h0
   simp at h;subst h
   exact ⟨[],fun w' _ => by simp [Builtin.firstCells],.nil,by simp⟩
  ·simp at h
 ·by_cases hz0:n * z = 0
  ·simp only [rdSl,if_pos hz0,Option.some.injEq] at h
   subst h
   exact ⟨[],fun w' _ => by simp only [Builtin.firstCells,hz0,loadCells,loadCellsFrom];rfl,.nil,by simp [hz0]⟩
  simp only [rdSl,if_neg hz0,ldCells,Option.bind_eq_some_iff] at h
  obtain ⟨cs,hcs,h⟩:=h
  rcases h4.1 with h5 | h5
  ·have hn0:n = 0:=by have:=h4.2.1;omega
   subst hn0
   unfold cCells at h
   split at h
   ·simp at h;subst h
    refine ⟨[],fun w' _ => ?_,.nil,by simp⟩
    simp [Builtin.firstCells,loadCells,loadCellsFrom]
   ·simp at h
  ·subst h5
   obtain ⟨vs',h6,h7,h8⟩:=hm.loadCells (P:=P) hcs h
   exact ⟨vs',fun w' hw' => by simp only [Builtin.firstCells];exact h6 w' hw',h7,h8⟩
theorem VRs.one' {ρ L cs cs'} (h:VRs ρ L cs cs'):∀ v ∈ cs',v.oneCell' = true:=by
 intro v hv
 obtain ⟨i,hi,rfl⟩:=List.mem_iff_getElem.1 hv
 have hi':i < cs.length:=by rw [h.len];exact hi
 obtain ⟨v',h3,h4⟩:=h.all i cs[i] (by simp [hi'])
 have:v' = cs'[i]:=by
  rw [List.getElem?_eq_getElem hi] at h3;simp at h3;exact h3.symm
 rw [← this,← h4.one]
 exact h.one _ (List.getElem_mem hi')
theorem zeroCells_list (zs:Array Value) (n:Nat):(Builtin.zeroCells zs n).toList = repl n zs.toList:=repl_range n zs
theorem not_int {d:TypeDesc} (h:∀ k,d ≠ .int k):(d matches .int _) = false:=by
 cases d <;> first | rfl | exact absurd rfl (h _)
theorem append_place {sType xType ty el:TypeId} (hu:P.underlying sType = some (.slice el)) {d2:TypeDesc} (hu2:P.underlying xType = some d2) (hd2:∀ k,d2 ≠ .int k) {i:TypeInfo} (hi:P.info? el = some i)
 (base:Option Addr) (sLen sCap:Nat) (x:Value) (n:Nat) (hlen:(Builtin.lenOf x).run P w = .ok n w) (hle:sLen + n ≤ sCap) {new:Array Value} (hnew:(Builtin.firstCells i.size n x).run P w = .ok new w) :
 (Builtin.append_ #[sType,xType] ty #[.slice base sLen sCap,x]).run P w = match base with
   | some b => ((Go.storeCells (b.add (sLen * i.size)) new.toList).run P w).andThen fun _ w'' => .ok (.slice base (sLen + n) sCap) w''
   | none => .ok (.slice base (sLen + n) sCap) w:=by
 have hz:=not_int hd2
 cases base <;> simp [Builtin.append_,under w hu,under w hu2,sizeOf,typeInfo,hi,hlen,hle,hnew,hz]
theorem append_new {sType xType ty el:TypeId} (hu:P.underlying sType = some (.slice el)) {d2:TypeDesc} (hu2:P.underlying xType = some d2) (hd2:∀ k,d2 ≠ .int k) {i:TypeInfo} (hi:P.info? el = some i) {z:Value} (hz:i.zero = some z)
 (base:Option Addr) (sLen sCap:Nat) (x:Value) (n:Nat) (hlen:∀ w,(Builtin.lenOf x).run P w = .ok n w) (hgt:sCap < sLen + n) (h40:sLen + n ≤ most) (h40':(sLen + n) * i.bytes ≤ most)
 {old new:Array Value} (hold:(Builtin.firstCells i.size sLen (.slice base sLen sCap)).run P w.drew = .ok old w.drew)
 (hnew:(Builtin.firstCells i.size n x).run P w.drew = .ok new w.drew) :
 ∃ c,sLen + n ≤ c ∧ (Builtin.append_ #[sType,xType] ty #[.slice base sLen sCap,x]).run P w =
  .ok (.slice (some ⟨w.heap.size,0,none⟩) (sLen + n) c) (w.drew.alloc (.cells (old ++ (new ++ Builtin.zeroCells z.cells (c - (sLen + n)))) el)):=by
 refine ⟨(Question.appendCap (sLen + n) sCap el).cut (w.tape w.drawn (.appendCap (sLen + n) sCap el)),by simp [Question.cut],?_⟩
 have hle:¬ (sLen + n ≤ sCap):=by omega
 unfold most at h40 h40'
 have h1:¬ (9223372036854775807 < ((sLen:Int) + (n:Int))):=by omega
 have h2:=nextslicecap_le hgt
 have h3:Builtin.nextslicecap (sLen + n) sCap * i.bytes ≤ 281474976710656:=by
  have:=Nat.mul_le_mul_right i.bytes h2
  rw [Nat.mul_assoc] at this
  omega
 have h4:¬ (281474976710656 < Builtin.nextslicecap (sLen + n) sCap * i.bytes):=by omega
 have hz2:=not_int hd2
 simp [Builtin.append_,under w hu,under w hu2,sizeOf,typeInfo,zeroValue,hi,hz,hlen,hle,h1,h4,Question.forced,hold,hnew,newRow,hz2]
theorem MRep.drew (hm:MRep ρ m w):MRep ρ m w.drew ∧ Evo ρ m w ρ m w.drew:=hm.drawn rfl rfl rfl rfl
theorem grown_sound {m1:Mem} (hm:MRep ρ m1 w) {cs cs' rest:List Value} (h:VRs ρ m1.length cs cs') (hr:∀ v ∈ rest,plainV v = true) {el:TypeId} {n c z:Nat} (hn:n ≤ c) (hsz:c * z ≤ cs'.length + rest.length) :
 ∃ ρ',VR ρ' (m1 ++ [MObj.live cs]).length (.slice (some ⟨m1.length,0,some z⟩) n n) (.slice (some ⟨w.drew.heap.size,0,none⟩) n c) ∧
  MRep ρ' (m1 ++ [.live cs]) (w.drew.alloc (.cells ⟨cs' ++ rest⟩ el)) ∧ Evo ρ m1 w ρ' (m1 ++ [.live cs]) (w.drew.alloc (.cells ⟨cs' ++ rest⟩ el)):=by
 obtain ⟨h1,h2⟩:=hm.drew
 have h3:=MRep.alloc h1 (cs:=cs) (real:=cs' ++ rest) (elem:=el) (fr:=(0,0)) (by rw [h.len,List.take_left];exact h) (by simp [h.len]) (by
  intro v hv
  rcases List.mem_append.1 hv with hv | hv
  ·exact h.one' v hv
  ·exact plain_one (hr v hv)) (by intro j _;simp) (w':=w.drew.alloc (.cells ⟨cs' ++ rest⟩ el)) rfl rfl rfl rfl
 refine ⟨_,?_,h3.1,h2.trans h3.2⟩
 refine .sl _ _ _ _ _ (by simp) ⟨.inr (by simp [toR,Rn.upd]),hn,fun h => by simp at h,fun z' hz' => ?_⟩
 simp only [Option.some.injEq] at hz'
 subst hz'
 refine ⟨hn,?_⟩
 simp [Rn.upd];omega
theorem appM_sound (hT:TOk P C.T) (hm:MRep ρ m w) {sType xType ty el:TypeId} (hd:(C.T sType).d = .slice el) (hd2:notInt (C.T xType).d = true) {p:Option Addr} {n c l:Nat} {new:List Value} {s' x':Value} {K:Sl → Mem → Option R}
 (h:(appM (C.T el).size (C.T el).bytes m p n c l new).bind (fun r => K r.1 r.2) = some r) (hs':VR ρ m.length (.slice p n c) s') (hlen:∀ w,(Builtin.lenOf x').run P w = .ok l w)
 {new':List Value} (hnew:∀ w',w'.heap = w.heap → (Builtin.firstCells (C.T el).size l x').run P w' = .ok ⟨new'⟩ w') (hvs:VRs ρ m.length new new') (hnl:new.length = l * (C.T el).size) :
 ∃ s m' v' w' ρ',K s m' = some r ∧ (Builtin.append_ #[sType,xType] ty #[s',x']).run P w = .ok v' w' ∧ VR ρ' m'.length (.slice s.a s.len s.cap) v' ∧ MRep ρ' m' w' ∧ Evo ρ m w ρ' m' w':=by
 simp only [Option.bind_eq_some_iff] at h
 obtain ⟨⟨s,m'⟩,hap,hK⟩:=h
 have ht:=hT sType (by rw [hd];simp)
 have hdd:=ht.desc
 rw [hd] at hdd
 have hte:=hT el hdd.2
 obtain ⟨i,hi1,hi2,hi3,z,hi4,hi5⟩:=hte.info
 obtain ⟨d2,hu2,hd2'⟩:∃ d2,P.underlying xType = some d2 ∧ ∀ k,d2 ≠ .int k:=by
  have hx:=hT xType (by intro h;rw [h] at hd2;simp [notInt] at hd2)
  have hxd:=hx.desc
  cases hq:(C.T xType).d <;> rw [hq] at hd2 hxd <;> simp only [notInt,Bool.false_eq_true] at hd2
  ·exact ⟨_,hxd,by simp⟩
  ·exact ⟨_,hxd.1,by simp⟩
 unfold appM at hap
 split at hap
 ·
  rename_i hle
  have hnew0:=hnew w rfl
  rw [← hi2] at hnew0
  rcases hs'.sl_inv with ⟨rfl,rfl,rfl,rfl⟩ | ⟨b,b',c',rfl,rfl,h3,h4⟩
  ·simp only at hap
   split at hap
   ·rename_i h0
    simp only [Option.some.injEq,Prod.mk.injEq] at hap
    obtain ⟨rfl,rfl⟩:=hap
    have hl0:l = 0:=by omega
    subst hl0
    refine ⟨_,_,_,w,ρ,hK,append_place hdd.1 hu2 hd2' hi1 none 0 0 x' 0 (hlen w) hle hnew0,.sl0,hm,Evo.refl _ _ _⟩
   ·simp at hap
  ·have hcc:c ≤ c':=by
    cases hsp:b.spot with
    | none => have:=h4.2.2.1 hsp;omega
    | some y => exact (h4.2.2.2 y hsp).1
   simp only [Option.bind_eq_some_iff] at hap
   obtain ⟨m1,hst,hap⟩:=hap
   simp only [Option.some.injEq,Prod.mk.injEq] at hap
   obtain ⟨rfl,rfl⟩:=hap
   have key:=append_place (ty:=ty) hdd.1 hu2 hd2' hi1 (some b') n c' x' l (hlen w) (by omega) hnew0
   have hslot:∀ {w':World},Evo ρ m w ρ m1 w' → VR ρ m1.length (.slice (some b) (n + l) c) (.slice (some b') (n + l) c'):=by
    intro w' hev
    exact .sl _ _ _ _ _ (by have:=hev.len;omega) ⟨h4.1,by omega,h4.2.2.1,h4.2.2.2⟩
   rcases h4.1 with h5 | h5
   ·
    have hl0:l = 0:=by omega
    subst hl0
    have hn0:new' = []:=by
     have:=hvs.len
     apply List.eq_nil_of_length_eq_zero;omega
    subst hn0
    have hnn:new = []:=by
     apply List.eq_nil_of_length_eq_zero;have:=hvs.len;simpa using this
    subst hnn
    obtain ⟨cs,e1,e2,e3⟩:=stCells_inv hst
    have hself:m1 = m:=by
     rw [e3]
     simp only [List.append_nil,List.length_nil,Nat.add_zero,List.take_append_drop]
     apply List.ext_getElem?
     intro j
     rw [List.getElem?_set]
     split
     ·rename_i h;subst h
      rw [if_pos (hm.wlt e1)];exact (wcells_iff.1 e1).symm
     ·rfl
    subst hself
    refine ⟨_,_,_,w,ρ,hK,?_,hslot (Evo.refl _ _ _),hm,Evo.refl _ _ _⟩
    rw [key];rfl
   ·subst h5
    obtain ⟨w',h6,h7,h8⟩:=stCells_sound (P:=P) hm hst hvs
    refine ⟨_,_,_,w',ρ,hK,?_,hslot h8,h7,h8⟩
    rw [key]
    have e:(toR ρ b).add (n * i.size) = toR ρ (Mx.plus b (n * (C.T el).size)):=by simp [toR,Mx.plus,add_none,hi2,Nat.add_assoc]
    simp only [e,h6,Result.andThen_ok]
 ·rename_i hgt
  split at hap
  ·rename_i hb
   have hdr:=(hm.drew)
   have hnew1:=hnew w.drew rfl
   rw [← hi2] at hnew1
   have hrest:∀ k,∀ v ∈ (Builtin.zeroCells z.cells k).toList,plainV v = true:=by
    intro k
    rw [zeroCells_list]
    exact repl_plain (by rw [hi5];exact hte.plain)
   have hrl:∀ k,(Builtin.zeroCells z.cells k).toList.length = k * (C.T el).size:=by
    intro k
    rw [zeroCells_list,repl_length,hi5,hte.zlen]
   have harr:∀ (o q:List Value) (k:Nat),((⟨o⟩:Array Value) ++ ((⟨q⟩:Array Value) ++ Builtin.zeroCells z.cells k)) = ⟨o ++ q ++ (Builtin.zeroCells z.cells k).toList⟩:=by
    intro o q k
    apply Array.toList_inj.1
    simp [List.append_assoc]
   rcases hs'.sl_inv with ⟨rfl,rfl,rfl,rfl⟩ | ⟨b,b',c',rfl,rfl,h3,h4⟩
   ·simp only at hap
    simp only [if_true,Option.some.injEq,Prod.mk.injEq] at hap
    obtain ⟨rfl,rfl⟩:=hap
    obtain ⟨cc,h5,h6⟩:=append_new (ty:=ty) hdd.1 hu2 hd2' hi1 hi4 none 0 0 x' l hlen (by omega) (by omega) (by rw [hi3];exact hb.1) (old:=#[]) (by simp [Builtin.firstCells]) hnew1
    obtain ⟨ρ',h7,h8,h9⟩:=grown_sound (cs:=[] ++ new) (cs':=[] ++ new') hm (by simpa using hvs) (hrest (cc - (0 + l))) (el:=el) (n:=l) (c:=cc) (z:=(C.T el).size) (by omega) (by
     rw [hrl]
     have:=hvs.len
     simp only [List.nil_append]
     rw [← this,hnl,← Nat.add_mul]
     exact Nat.mul_le_mul_right _ (by omega))
    refine ⟨_,_,_,_,ρ',hK,h6,?_,?_,?_⟩
    ·rw [Nat.zero_add];exact h7
    ·rw [harr];simpa using h8
    ·rw [harr];simpa using h9
   ·simp only [Option.bind_eq_some_iff] at hap
    obtain ⟨old,hold,hap⟩:=hap
    have hnc':n ≤ c':=h4.2.1
    have hrd:rdSl m (some b) n (C.T el).size = some old:=rdSl_ld hold
    have holdr:∀ w':World,MRep ρ m w' → ∃ old',(Builtin.firstCells i.size n (.slice (some b') n c')).run P w' = .ok ⟨old'⟩ w' ∧ VRs ρ m.length old old' ∧ old.length = n * (C.T el).size:=by
     intro w' hm'
     obtain ⟨o1,o2,o3,o4⟩:=rdSl_sound (P:=P) hm' hrd hs' (Nat.le_refl _)
     rw [← hi2] at o2 o4 ⊢
     exact ⟨o1,o2 w' rfl,o3,o4⟩
    have grow:∀ (m1:Mem),MRep ρ m1 w ∧ Evo ρ m w ρ m1 w → m1.length = m.length → m' = m1 ++ [.live (old ++ new)] → s = ⟨some ⟨m.length,0,some (C.T el).size⟩,n + l,n + l⟩ → c' < n + l →
     ∃ s m' v' w' ρ',K s m' = some r ∧ (Builtin.append_ #[sType,xType] ty #[.slice (some b') n c',x']).run P w = .ok v' w' ∧ VR ρ' m'.length (.slice s.a s.len s.cap) v' ∧ MRep ρ' m' w' ∧ Evo ρ m w ρ' m' w':=by
     intro m1 hm1 hl1 hm' hs1 hlt
     obtain ⟨old',h5,h6,h6'⟩:=holdr w.drew hdr.1
     obtain ⟨cc,h7,h8⟩:=append_new (ty:=ty) hdd.1 hu2 hd2' hi1 hi4 (some b') n c' x' l hlen hlt hb.2 (by rw [hi3];exact hb.1) h5 hnew1
     obtain ⟨ρ',h9,h10,h11⟩:=grown_sound (cs:=old ++ new) (cs':=old' ++ new') hm1.1 (by rw [hl1];exact h6.append hvs) (hrest (cc - (n + l))) (el:=el) (n:=n + l) (c:=cc) (z:=(C.T el).size) h7 (by
      rw [hrl,List.length_append,← h6.len,← hvs.len,hnl,h6',← Nat.add_mul,← Nat.add_mul]
      exact Nat.mul_le_mul_right _ (by omega))
     refine ⟨s,m',_,_,ρ',hK,h8,?_,?_,?_⟩
     ·rw [hs1,hm',← hl1];exact h9
     ·rw [hm',harr];exact h10
     ·rw [hm',harr];exact hm1.2.trans h11
    split at hap
    ·rename_i hsp
     simp only [Option.some.injEq,Prod.mk.injEq] at hap
     have hcc:=h4.2.2.1 hsp
     exact grow m ⟨hm,Evo.refl _ _ _⟩ rfl hap.2.symm hap.1.symm (by omega)
    ·rename_i z' hsp
     split at hap
     ·rename_i hz0
      subst hz0
      simp only [Option.bind_eq_some_iff] at hap
      obtain ⟨cs,hcs,hap⟩:=hap
      simp only [Option.some.injEq,Prod.mk.injEq] at hap
      obtain ⟨rfl,rfl⟩:=hap
      have hkill:=hm.killO b.block (o:=bif Nat.beq b.off 0 then .old old m.length else .dead) (by
       cases h0:Nat.beq b.off 0 with
       | false => exact .inl rfl
       | true =>
        refine .inr ⟨old,cs,m.length,rfl,wcells_iff.1 hcs,?_⟩
        have hb0:=Nat.eq_of_beq_eq_true h0
        simp only [ldCells,Option.bind_eq_some_iff] at hold
        obtain ⟨cs2,hcs2,hold⟩:=hold
        rw [cells_iff.2 (.inl (wcells_iff.1 hcs))] at hcs2
        simp only [Option.some.injEq] at hcs2
        subst hcs2
        unfold cCells at hold
        split at hold
        ·rename_i hle
         simp only [Option.some.injEq] at hold
         rw [hb0,List.drop_zero] at hold
         rw [← hold,List.length_take,Nat.min_eq_left (by omega)]
        ·simp at hold)
      obtain ⟨hcc,hbound⟩:=h4.2.2.2 _ hsp
      by_cases hlt:c' < n + l
      ·exact grow _ hkill (by simp) rfl rfl hlt
      ·
       have hb':b' = toR ρ b:=by
        rcases h4.1 with h | h
        ·omega
        ·exact h
       subst hb'
       obtain ⟨old',h5,h6,h6'⟩:=holdr w hm
       have hnew0:=hnew w rfl
       rw [← hi2] at hnew0
       have key:=append_place (ty:=ty) hdd.1 hu2 hd2' hi1 (some (toR ρ b)) n c' x' l (hlen w) (by omega) hnew0
       simp only [ldCells,Option.bind_eq_some_iff] at hold
       obtain ⟨cs2,hcs2,hold⟩:=hold
       have hlive:=wcells_iff.1 hcs
       have hce:cs2 = cs:=by
        rw [cells_iff.2 (.inl hlive)] at hcs2
        simpa using hcs2.symm
       subst hce
       obtain ⟨real,elem,fr,a1,a2,a3,a4,a5,a6⟩:=hm.live b.block cs2 hlive
       have hroom:ρ.sh b.block + (b.off + n * (C.T el).size) + new'.length ≤ real.length:=by
        rw [← hvs.len,hnl,a2]
        have:=Nat.mul_le_mul_right (C.T el).size (show n + l ≤ c' by omega)
        rw [Nat.add_mul] at this
        omega
       obtain ⟨w',b1,b2,b3,b4,b5,b6,b7⟩:=storeCells_real (P:=P) (b:=ρ.blk b.block) (o:=ρ.sh b.block + (b.off + n * (C.T el).size)) new' 0 real w a1 a4 (by omega) hvs.one'
       have eadd:(toR ρ b).add (n * i.size) = ⟨ρ.blk b.block,ρ.sh b.block + (b.off + n * (C.T el).size),none⟩:=by simp [toR,add_none,hi2,Nat.add_assoc]
       have hold2:old = (cs2.drop b.off).take (n * (C.T el).size) ∧ b.off + n * (C.T el).size ≤ cs2.length:=by
        unfold cCells at hold
        split at hold
        ·rename_i hle
         simp at hold
         exact ⟨hold.symm,hle⟩
        ·simp at hold
       have hlt0:=hm.wlt hcs
       have hpre:(cs2.take (b.off + n * (C.T el).size)).length = b.off + n * (C.T el).size:=by rw [List.length_take];omega
       have hdrop:(cs2.take (b.off + n * (C.T el).size) ++ new).drop b.off = old ++ new:=by
        rw [List.drop_append_of_le_length (by omega),hold2.1,List.take_drop]
       refine ⟨_,_,.slice (some (toR ρ b)) (n + l) c',w',ρ.updS m.length (ρ.blk b.block) (ρ.sz b.block) (ρ.sh b.block + b.off),hK,?_,?_,?_,?_⟩
       ·rw [key];simp only [eadd,b1,Result.andThen_ok]
       ·refine .sl _ _ _ _ _ (by simp) ⟨.inr (by simp [toR,Rn.updS]),by show n + l ≤ c';omega,fun h => by simp at h,fun z' hz' => ?_⟩
        simp only [Option.some.injEq] at hz'
        subst hz'
        refine ⟨by show n + l ≤ c';omega,?_⟩
        simp [Rn.updS];omega
       all_goals
        have htake:((real.take (ρ.sh b.block + (b.off + n * (C.T el).size)) ++ new' ++ real.drop (ρ.sh b.block + (b.off + n * (C.T el).size) + new'.length)).drop (ρ.sh b.block)).take (cs2.take (b.off + n * (C.T el).size) ++ new).length = (real.drop (ρ.sh b.block)).take (b.off + n * (C.T el).size) ++ new':=by
         rw [List.append_assoc,List.drop_append_of_le_length (by rw [List.length_take];omega),← List.append_assoc]
         rw [List.drop_take,Nat.add_sub_cancel_left]
         rw [List.take_left']
         rw [List.length_append,List.length_append,List.length_take,List.length_drop,hpre,hvs.len]
         omega
        have hvr:VRs ρ m.length (cs2.take (b.off + n * (C.T el).size) ++ new) ((real.drop (ρ.sh b.block)).take (b.off + n * (C.T el).size) ++ new'):=by
         refine VRs.append ?_ hvs
         have:=a6.take (b.off + n * (C.T el).size)
         rwa [List.take_take,Nat.min_eq_left hold2.2] at this
        have hch:=hm.change (w':=w') (cs':=cs2.take (b.off + n * (C.T el).size) ++ new) (real':=real.take (ρ.sh b.block + (b.off + n * (C.T el).size)) ++ new' ++ real.drop (ρ.sh b.block + (b.off + n * (C.T el).size) + new'.length)) (elem:=elem) (fr:=fr) hlive (by
         rw [← a2];simp;omega) (by rw [List.length_append,hpre,hvs.len];simp;omega) (by
         intro j hj
         apply a4
         simp at hj;omega) (by
         intro v hv
         rcases List.mem_append.1 hv with hv | hv
         ·rcases List.mem_append.1 hv with hv | hv
          ·exact a5 v (List.mem_of_mem_take hv)
          ·exact hvs.one' v hv
         ·exact a5 v (List.mem_of_mem_drop hv)) (by rw [htake];exact hvr) (by simpa using b2) b3 b4 b5 b6 b7
        have hmv:=hch.1.move (b:=b.block) (c:=cs2.take (b.off + n * (C.T el).size) ++ new) (by rw [List.getElem?_set];simp [hlt0]) b.off (by rw [List.length_append,hpre];omega) old
        rw [List.length_set,List.set_set,hdrop] at hmv
       ·exact hmv.1
       ·exact hch.2.trans hmv.2
     ·simp at hap
  ·simp at hap
theorem resolve_len (c:Call) (hc:c.callee = .builtin .len):(execOp a.eval ⟨dst,.call c,ty,pos,after,guard⟩).run P w = ((Builtin.len_ c.argTypes ty (c.args.map a.eval)).run P w).andThen fun v w' => .ok (.value v) w':=by
 obtain ⟨callee,args,argTypes⟩:=c
 simp only at hc
 subst hc
 simp [execOp,resolve,invoke,builtin]
theorem resolve_append (c:Call) (hc:c.callee = .builtin .append):(execOp a.eval ⟨dst,.call c,ty,pos,after,guard⟩).run P w = ((Builtin.append_ c.argTypes ty (c.args.map a.eval)).run P w).andThen fun v w' => .ok (.value v) w':=by
 obtain ⟨callee,args,argTypes⟩:=c
 simp only at hc
 subst hc
 simp [execOp,resolve,invoke,builtin]
theorem resolve_copy (c:Call) (hc:c.callee = .builtin .copy):(execOp a.eval ⟨dst,.call c,ty,pos,after,guard⟩).run P w = ((Builtin.copy_ c.argTypes ty (c.args.map a.eval)).run P w).andThen fun v w' => .ok (.value v) w':=by
 obtain ⟨callee,args,argTypes⟩:=c
 simp only at hc
 subst hc
 simp [execOp,resolve,invoke,builtin]
theorem resolve_min (c:Call) (hc:c.callee = .builtin .min):(execOp a.eval ⟨dst,.call c,ty,pos,after,guard⟩).run P w = ((Builtin.min_ c.argTypes ty (c.args.map a.eval)).run P w).andThen fun v w' => .ok (.value v) w':=by
 obtain ⟨callee,args,argTypes⟩:=c
 simp only at hc
 subst hc
 simp [execOp,resolve,invoke,builtin]
theorem resolve_max (c:Call) (hc:c.callee = .builtin .max):(execOp a.eval ⟨dst,.call c,ty,pos,after,guard⟩).run P w = ((Builtin.max_ c.argTypes ty (c.args.map a.eval)).run P w).andThen fun v w' => .ok (.value v) w':=by
 obtain ⟨callee,args,argTypes⟩:=c
 simp only at hc
 subst hc
 simp [execOp,resolve,invoke,builtin]
theorem args_one (hs:St P C.T ρ e m a w) {xs:Array Operand} {v:Value} (h:opnds e xs.toList = some [v]):∃ v',xs.map a.eval = #[v'] ∧ VR ρ m.length v v':=by
 obtain ⟨h1,h2⟩:=opnds_sound hs.env h
 match hx:xs.toList,h1 with
 | [x],_ =>
  obtain ⟨y,h3,h4⟩:=h2 0 v rfl
  rw [hx] at h3
  simp at h3;subst h3
  refine ⟨a.eval x,?_,h4⟩
  apply Array.toList_inj.1
  simp [hx]
theorem args_two (hs:St P C.T ρ e m a w) {xs:Array Operand} {v u:Value} (h:opnds e xs.toList = some [v,u]):∃ v' u',xs.map a.eval = #[v',u'] ∧ VR ρ m.length v v' ∧ VR ρ m.length u u':=by
 obtain ⟨h1,h2⟩:=opnds_sound hs.env h
 match hx:xs.toList,h1 with
 | [x,y],_ =>
  obtain ⟨x',h3,h4⟩:=h2 0 v rfl
  obtain ⟨y',h5,h6⟩:=h2 1 u rfl
  rw [hx] at h3 h5
  simp at h3 h5;subst h3;subst h5
  refine ⟨a.eval x,a.eval y,?_,h4,h6⟩
  apply Array.toList_inj.1
  simp [hx]
theorem arr_one {α:Type} {xs:Array α} {x:α} (h:xs.toList = [x]):xs = #[x]:=by apply Array.toList_inj.1;simpa using h
theorem arr_two {α:Type} {xs:Array α} {x y:α} (h:xs.toList = [x,y]):xs = #[x,y]:=by apply Array.toList_inj.1;simpa using h
theorem min2_int (k:IntKind) (x y:Int):(Builtin.min2 (.int k x) (.int k y)).run P w = .ok (.int k (minI x y)) w:=rfl
theorem max2_int (k:IntKind) (x y:Int):(Builtin.max2 (.int k x) (.int k y)).run P w = .ok (.int k (maxI x y)) w:=rfl
theorem bytesOf_len (s:ByteArray):(bytesOf s).length = s.size:=by simp [bytesOf]
theorem bytesOf_plain (s:ByteArray):∀ v ∈ bytesOf s,plainV v = true:=by
 intro v hv
 simp only [bytesOf,List.mem_map] at hv
 obtain ⟨b,_,rfl⟩:=hv
 rfl
theorem firstCells_str (s:ByteArray) (n z:Nat) (h:n ≤ s.size):(Builtin.firstCells z n (.string s)).run P w = .ok ⟨(bytesOf s).take n⟩ w:=by
 simp only [Builtin.firstCells,Sem.run_pure]
 congr 1
 apply Array.toList_inj.1
 simp [bytesOf,ByteArray.data_extract]
theorem wrap_sm {x:Int} (h1:-9223372036854775808 ≤ x) (h2:x < 9223372036854775808):IntKind.wrap .i64 x = x:=by
 simp [IntKind.wrap,IntKind.bits,IntKind.signed]
 omega
def zstr (l:Nat):ByteArray:=⟨⟨List.replicate l 0⟩⟩
theorem zstr_size (l:Nat):(zstr l).size = l:=by simp [zstr,ByteArray.size]
theorem zstr_bytes (l:Nat):bytesOf (zstr l) = repl l [.int .u8 0]:=by
 simp only [bytesOf,zstr,List.map_replicate]
 unfold repl
 induction l with
 | zero => rfl
 | succ l ih => rw [List.replicate_succ,List.replicate_succ,ih];rfl
theorem append_zeros {ty sType xType el:TypeId} (hu:P.underlying sType = some (.slice el)) {k:IntKind} (hu2:P.underlying xType = some (.int k)) {i:TypeInfo} (hi:P.info? el = some i) {z:Value} (hz:i.zero = some z) (hs1:i.size = 1) (hb:i.bytes = 1) (hzc:z.cells.toList = [.int .u8 0])
 (base:Option Addr) (sLen sCap l:Nat) (kx:IntKind) (hl:l ≤ 1000000) (hl0:l ≠ 0) (hfit:sLen + l ≤ sCap ∨ sLen + l ≤ most) :
 (Builtin.append_ #[sType,xType] ty #[.slice base sLen sCap,.int kx l]).run P w = (Builtin.append_ #[sType,sType] ty #[.slice base sLen sCap,.string (zstr l)]).run P w:=by
 have hw:IntKind.wrap .i64 (l:Int) = l:=wrap_sm (by omega) (by omega)
 have h0:¬ ((l:Int) < 0):=by omega
 have h1:¬ (281474976710656 < (l:Int)):=by omega
 have hzero:Builtin.zeroCells z.cells l = ⟨(bytesOf (zstr l))⟩:=by
  apply Array.toList_inj.1
  rw [zeroCells_list,hzc,zstr_bytes]
 have hlen:(Builtin.lenOf (.string (zstr l))).run P w = .ok l w:=by simp [Builtin.lenOf,zstr_size]
 have hfc:∀ w:World,(Builtin.firstCells 1 l (.string (zstr l))).run P w = .ok ⟨bytesOf (zstr l)⟩ w:=fun w => by
  have:=firstCells_str (P:=P) (w:=w) (zstr l) l 1 (by rw [zstr_size];exact Nat.le_refl _)
  rw [this]
  congr 2
  rw [List.take_of_length_le (by rw [bytesOf_len,zstr_size];exact Nat.le_refl _)]
 have hn1:(TypeDesc.int k matches .int _) = true:=rfl
 have hn2:(TypeDesc.slice el matches .int _) = false:=rfl
 by_cases hle:sLen + l ≤ sCap
 ·cases base <;> simp [Builtin.append_,under w hu,under w hu2,sizeOf,typeInfo,zeroValue,hi,hz,hle,hs1,hb,hw,h0,h1,hl0,asInt,asIntOf,hlen,hfc,hzero]
 ·have hm:sLen + l ≤ most:=by rcases hfit with h | h;exact absurd h hle;exact h
  unfold most at hm
  have h3:¬ (9223372036854775807 < ((sLen:Int) + (l:Int))):=by omega
  have h2:=nextslicecap_le (by omega:sCap < sLen + l)
  have h4:¬ (281474976710656 < Builtin.nextslicecap (sLen + l) sCap):=by omega
  simp [Builtin.append_,under w hu,under w hu2,sizeOf,typeInfo,zeroValue,hi,hz,hle,hs1,hb,hw,h0,h1,h3,h4,hl0,asInt,asIntOf,hlen,hfc,hzero]
theorem op_builtin (hs:St P C.T ρ e m a w) {c:Call} (hc:∃ b,c.callee = .builtin b) (h:oper C (.call c) e m K = some r):∃ v m',K v m' = some r ∧ Did P a ⟨dst,.call c,ty,pos,after,guard⟩ ρ m w v m':=by
 obtain ⟨b,hb⟩:=hc
 simp only [oper,hb] at h
 cases b <;> simp only [reduceCtorEq] at h
 case len =>
  split at h
  ·rename_i t v hat hv
   obtain ⟨v',h1,h2⟩:=args_one hs hv
   have run:=resolve_len (P:=P) (w:=w) (a:=a) (dst:=dst) (ty:=ty) (pos:=pos) (after:=after) (guard:=guard) c hb
   rw [h1,arr_one hat] at run
   have ht:=fun hne => (hs.tok t hne).desc
   split at h
   ·rename_i el p n cp hd
    have hdd:=ht (by rw [hd];simp)
    rw [hd] at hdd
    refine ⟨_,m,h,.here hs.mem (v':=.int .i64 (n:Int)) ?_ (.int _ _)⟩
    rw [run]
    rcases h2.sl_inv with ⟨rfl,rfl,rfl,rfl⟩ | ⟨x,x',c',rfl,rfl,_,_⟩ <;> simp [Builtin.len_,under w hdd.1,goInt]
   ·rename_i s hd
    have hdd:=ht (by rw [hd];simp)
    rw [hd] at hdd
    refine ⟨_,m,h,.here hs.mem (v':=.int .i64 (s.size:Int)) ?_ (.int _ _)⟩
    rw [run,h2.str_inv]
    simp [Builtin.len_,under w hdd,goInt]
   ·rename_i n el hd
    have hdd:=ht (by rw [hd];simp)
    rw [hd] at hdd
    refine ⟨_,m,h,.here hs.mem (v':=.int .i64 (n:Int)) ?_ (.int _ _)⟩
    rw [run]
    simp [Builtin.len_,under w hdd.1,goInt]
   ·simp at h
  ·simp at h
 case min =>
  split at h
  ·rename_i k x k' y hv
   obtain ⟨v',u',h1,h2,h3⟩:=args_two hs hv
   split at h
   ·rename_i hk;subst hk
    refine ⟨_,m,h,.here hs.mem (v':=.int k (minI x y)) ?_ (.int _ _)⟩
    rw [resolve_min _ hb,h1,h2.int_inv,h3.int_inv]
    simp [Builtin.min_,min2_int]
   ·simp at h
  ·simp at h
 case max =>
  split at h
  ·rename_i k x k' y hv
   obtain ⟨v',u',h1,h2,h3⟩:=args_two hs hv
   split at h
   ·rename_i hk;subst hk
    refine ⟨_,m,h,.here hs.mem (v':=.int k (maxI x y)) ?_ (.int _ _)⟩
    rw [resolve_max _ hb,h1,h2.int_inv,h3.int_inv]
    simp [Builtin.max_,max2_int]
   ·simp at h
  ·simp at h
 case append =>
  split at h
  ·rename_i t t2 p n cp x hat hv
   obtain ⟨v',u',h1,h2,h3⟩:=args_two hs hv
   have run:=resolve_append (P:=P) (w:=w) (a:=a) (dst:=dst) (ty:=ty) (pos:=pos) (after:=after) (guard:=guard) c hb
   rw [h1,arr_two hat] at run
   split at h
   ·rename_i el q l lc hd
    cases hn:notInt (C.T t2).d with
    | false => rw [hn] at h;simp at h
    | true =>
     rw [hn] at h
     simp only [cond_true,Option.bind_eq_some_iff] at h
     obtain ⟨new,hrd,h⟩:=h
     obtain ⟨new',h4,h5,h6⟩:=rdSl_sound (P:=P) hs.mem hrd h3 (Nat.le_refl _)
     have hlen:∀ w,(Builtin.lenOf u').run P w = .ok l w:=by
      intro w
      rcases h3.sl_inv with ⟨rfl,rfl,rfl,rfl⟩ | ⟨x,x',c',rfl,rfl,_,_⟩ <;> rfl
     obtain ⟨s,m',v2,w',ρ',h7,h8,h9,h10,h11⟩:=appM_sound (P:=P) (ty:=ty) (K:=fun s m => K (.slice s.a s.len s.cap) m) hs.tok hs.mem hd hn (Option.bind_eq_some_iff.2 h) h2 hlen h4 h5 h6
     exact ⟨_,m',h7,v2,w',ρ',.inl (by rw [run,h8];rfl),h9,h10,h11⟩
   ·rename_i el s hd
    cases hn:(notInt (C.T t2).d && Nat.beq (C.T el).size 1) with
    | false => rw [hn] at h;simp at h
    | true =>
     rw [hn] at h
     simp only [cond_true] at h
     simp only [Bool.and_eq_true] at hn
     have hsz1:=Nat.eq_of_beq_eq_true hn.2
     have h3':=h3.str_inv
     subst h3'
     rw [← hsz1] at h
     obtain ⟨s2,m',v2,w',ρ',h7,h8,h9,h10,h11⟩:=appM_sound (P:=P) (ty:=ty) (x':=.string s) (new':=bytesOf s) (K:=fun s m => K (.slice s.a s.len s.cap) m) hs.tok hs.mem hd hn.1 h h2 (fun _ => rfl)
      (fun w' _ => by rw [firstCells_str _ _ _ (Nat.le_refl _),← bytesOf_len,List.take_length]) (VRs.plain (bytesOf_plain s)) (by rw [bytesOf_len,hsz1,Nat.mul_one])
     exact ⟨_,m',h7,v2,w',ρ',.inl (by rw [run,h8];rfl),h9,h10,h11⟩
   ·rename_i el kx l hd
    cases hn:(isIntT (C.T t2).d && Nat.beq (C.T el).size 1 && Nat.beq (C.T el).bytes 1 && isZ8 (C.T el).zero && decide (0 < l) && decide (l ≤ 1000000)) with
    | false => rw [hn] at h;simp at h
    | true =>
     rw [hn] at h
     simp only [cond_true] at h
     simp only [Bool.and_eq_true,decide_eq_true_eq] at hn
     obtain ⟨⟨⟨⟨⟨n1,n2⟩,n3⟩,n4⟩,n5⟩,n6⟩:=hn
     have n2:=Nat.eq_of_beq_eq_true n2
     have n3:=Nat.eq_of_beq_eq_true n3
     have h3':=h3.int_inv
     subst h3'
     have hdd:=(hs.tok t (by rw [hd];simp)).desc
     rw [hd] at hdd
     have hte:=hs.tok el hdd.2
     obtain ⟨i,hi1,hi2,hi3,z,hi4,hi5⟩:=hte.info
     obtain ⟨k2,hk2⟩:∃ k2,P.underlying t2 = some (.int k2):=by
      have hx:=hs.tok t2 (by intro h;rw [h] at n1;simp [isIntT] at n1)
      have hxd:=hx.desc
      cases hq:(C.T t2).d <;> rw [hq] at n1 hxd <;> simp only [isIntT,Bool.false_eq_true] at n1
      exact ⟨_,hxd⟩
     have hzc:z.cells.toList = [.int .u8 0]:=by
      rw [hi5]
      unfold isZ8 at n4
      split at n4
      ·rename_i n hz;simp only [decide_eq_true_eq] at n4;subst n4;exact hz
      ·cases n4
     obtain ⟨ln,rfl⟩:=Int.eq_ofNat_of_zero_le (show 0 ≤ l by omega)
     simp only [Int.toNat_natCast] at h
     have hfit:n + ln ≤ cp ∨ n + ln ≤ most:=by
      apply Classical.byContradiction
      intro hno
      have g1:¬ n + ln ≤ cp:=fun g => hno (.inl g)
      have g2:¬ ((n + ln) * (C.T el).bytes ≤ most ∧ n + ln ≤ most):=fun g => hno (.inr g.2)
      unfold appM at h
      rw [if_neg g1,if_neg g2] at h
      simp at h
     obtain ⟨s2,m',v2,w',ρ',h7,h8,h9,h10,h11⟩:=appM_sound (P:=P) (ty:=ty) (xType:=t) (x':=.string (zstr ln)) (new':=bytesOf (zstr ln)) (K:=fun s m => K (.slice s.a s.len s.cap) m) hs.tok hs.mem hd (by rw [hd];rfl) h h2 (fun _ => by simp [Builtin.lenOf,zstr_size])
      (fun w' _ => by rw [firstCells_str _ _ _ (by rw [zstr_size];exact Nat.le_refl _),List.take_of_length_le (by rw [bytesOf_len,zstr_size];exact Nat.le_refl _)]) (by rw [← zstr_bytes];exact VRs.plain (bytesOf_plain _)) (by rw [← zstr_bytes,bytesOf_len,zstr_size,n2,Nat.mul_one])
     refine ⟨_,m',h7,v2,w',ρ',.inl ?_,h9,h10,h11⟩
     rw [run]
     rcases h2.sl_inv with ⟨rfl,rfl,rfl,rfl⟩ | ⟨b,b',c',rfl,rfl,h4,h5⟩
     ·rw [append_zeros hdd.1 hk2 hi1 hi4 (by rw [hi2,n2]) (by rw [hi3,n3]) hzc none 0 0 ln _ (by omega) (by omega) hfit,h8];rfl
     ·have hcc:cp ≤ c':=by
       cases hsp:b.spot with
       | none => have:=h5.2.2.1 hsp;omega
       | some y => exact (h5.2.2.2 y hsp).1
      rw [append_zeros hdd.1 hk2 hi1 hi4 (by rw [hi2,n2]) (by rw [hi3,n3]) hzc (some b') n c' ln _ (by omega) (by omega) (by omega),h8];rfl
   ·simp at h
  ·simp at h
 case copy =>
  split at h
  ·rename_i t ts p n cp x hat hv
   obtain ⟨v',u',h1,h2,h3⟩:=args_two hs hv
   have run:=resolve_copy (P:=P) (w:=w) (a:=a) (dst:=dst) (ty:=ty) (pos:=pos) (after:=after) (guard:=guard) c hb
   rw [h1] at run
   have hat0:c.argTypes[0]? = some t:=by rw [← Array.getElem?_toList,hat];rfl
   have fin:∀ {el:Nat} (hd:(C.T t).d = .slice el) {l k:Nat} (hk:k = min l n) {new new':List Value} (hlen:(Builtin.lenOf u').run P w = .ok l w) (hnew:(Builtin.firstCells (C.T el).size k u').run P w = .ok ⟨new'⟩ w)
    (hvs:VRs ρ m.length new new') (hnl:new.length = k * (C.T el).size) {m1:Mem} (hst:oper.stSl m p new = some m1) (hK:K (.int .i64 (k:Int)) m1 = some r),∃ v m',K v m' = some r ∧ Did P a ⟨dst,.call c,ty,pos,after,guard⟩ ρ m w v m':=by
    intro el hd l k hk new new' hlen hnew hvs hnl m1 hst hK
    have hdd:=(hs.tok t (by rw [hd];simp)).desc
    rw [hd] at hdd
    have hsz:=(hs.tok el hdd.2).size w
    have e0:(Builtin.copy_ c.argTypes ty #[v',u']).run P w = ((match (v':Value) with | .slice (some x) _ _ => Go.storeCells x new' | _ => pure ()).run P w).andThen fun _ w' => .ok (.int .i64 (k:Int)) w':=by
     rcases h2.sl_inv with ⟨rfl,rfl,rfl,rfl⟩ | ⟨b,b',c',rfl,rfl,h4,h5⟩
     ·have:k = 0:=by omega
      subst this
      simp [Builtin.copy_,hat0,under w hdd.1,hlen,hsz,goInt,hnew]
     ·have hk':Nat.min l n = k:=hk.symm
      simp [Builtin.copy_,hat0,under w hdd.1,hlen,hsz,goInt,hnew,hk']
    rcases h2.sl_inv with ⟨rfl,rfl,rfl,rfl⟩ | ⟨b,b',c',rfl,rfl,h4,h5⟩
    ·simp only [oper.stSl] at hst
     split at hst
     ·simp at hst;subst hst
      refine ⟨_,m,hK,.here hs.mem (v':=.int .i64 (k:Int)) ?_ (.int _ _)⟩
      rw [run,e0];rfl
     ·simp at hst
    ·simp only [oper.stSl] at hst
     have hnc':n ≤ c':=h5.2.1
     rcases h5.1 with h6 | h6
     ·have hk0:k = 0:=by omega
      have hnn:new = []:=by apply List.eq_nil_of_length_eq_zero;rw [hnl,hk0];simp
      subst hnn
      have hn0:new' = []:=by apply List.eq_nil_of_length_eq_zero;have:=hvs.len;simpa using this.symm
      subst hn0
      obtain ⟨cs,e1,e2,e3⟩:=stCells_inv hst
      have hself:m1 = m:=by
       rw [e3]
       simp only [List.append_nil,List.length_nil,Nat.add_zero,List.take_append_drop]
       apply List.ext_getElem?
       intro j
       rw [List.getElem?_set]
       split
       ·rename_i h;subst h
        exact (wcells_iff.1 e1).symm
       ·rfl
      subst hself
      refine ⟨_,_,hK,.here hs.mem (v':=.int .i64 (k:Int)) ?_ (.int _ _)⟩
      rw [run,e0];rfl
     ·subst h6
      obtain ⟨w',h7,h8,h9⟩:=stCells_sound (P:=P) hs.mem hst hvs
      refine ⟨_,_,hK,.int .i64 (k:Int),w',ρ,.inl ?_,.int _ _,h8,h9⟩
      rw [run,e0]
      simp only [h7,Result.andThen_ok]
   split at h
   ·rename_i el q l lc hd
    simp only [Option.bind_eq_some_iff] at h
    obtain ⟨new,hrd,m1,hst,h⟩:=h
    obtain ⟨new',h4,h5,h6⟩:=rdSl_sound (P:=P) hs.mem hrd h3 (Nat.min_le_left _ _)
    refine fin hd rfl ?_ (h4 w rfl) h5 h6 hst h
    rcases h3.sl_inv with ⟨rfl,rfl,rfl,rfl⟩ | ⟨x,x',c',rfl,rfl,_,_⟩ <;> rfl
   ·rename_i el s hd
    cases hn:(Nat.beq (C.T el).size 1) with
    | false => rw [hn] at h;simp at h
    | true =>
     rw [hn] at h
     simp only [cond_true,Option.bind_eq_some_iff] at h
     obtain ⟨m1,hst,h⟩:=h
     have hsz1:=Nat.eq_of_beq_eq_true hn
     have h3':=h3.str_inv
     subst h3'
     refine fin hd rfl rfl (firstCells_str _ _ _ (Nat.min_le_left _ _)) ((VRs.plain (bytesOf_plain s)).take _) ?_ hst h
     rw [List.length_take,bytesOf_len,hsz1]
     omega
   ·simp at h
  ·simp at h
end
end Go.Mx
set_option linter.unusedVariables false
set_option linter.unusedSimpArgs false
namespace Go.Mx
section
variable {P:Program} {R:Type} {C:Ctx R} {ρ:Rn} {e:Env} {m:Mem} {a:Act} {w:World} {r:R} {K:Value → Mem → Option R}
 {dst:Option Tmp} {ty:TypeId} {pos:String} {after:Array Edge} {guard:Option (Nat × Bool)}
theorem strGo_fold:∀ {cs:List Value} {l:List UInt8} (s:ByteArray),strOf.strGo cs = some l →
 (forIn (m:=Sem) cs s fun c s => match c with
   | .int .u8 n => pure (ForInStep.yield (s.push (UInt8.ofNat n.toNat)))
   | _ => do
    stuck "bytesToString: byte expected"
    pure (ForInStep.yield s)).run P w = .ok (l.foldl ByteArray.push s) w
 | [],l,s,h => by
  simp only [strOf.strGo,Option.some.injEq] at h;subst h
  simp
 | c :: cs,l,s,h => by
  unfold strOf.strGo at h
  split at h
  ·simp at *
  ·rename_i n cs' heq
   obtain ⟨rfl,rfl⟩:=List.cons.inj heq
   obtain ⟨l',h1,h2⟩:=Option.bind_eq_some_iff.1 h
   simp only [Option.some.injEq] at h2;subst h2
   rw [List.forIn_cons]
   simp only [Sem.run_bind,Sem.run_pure,Result.andThen_ok,List.foldl_cons]
   exact strGo_fold _ h1
  ·simp at h
theorem push_fold:∀ (l:List UInt8) (s:ByteArray),l.foldl ByteArray.push s = ⟨s.data ++ l.toArray⟩
 | [],s => by simp
 | b :: l,s => by
  rw [List.foldl_cons,push_fold l]
  cases s with
  | mk d => simp [ByteArray.push]
theorem strOf_eq {cs:List Value} {s:ByteArray} (h:strOf cs = some s):∃ l,strOf.strGo cs = some l ∧ l.foldl ByteArray.push ByteArray.empty = s:=by
 unfold strOf at h
 split at h
 ·simp only [Option.some.injEq] at h;subst h
  exact ⟨[],rfl,rfl⟩
 ·obtain ⟨l,h1,h2⟩:=Option.map_eq_some_iff.1 h
  refine ⟨l,h1,?_⟩
  rw [push_fold,← h2]
  simp [ByteArray.empty,ByteArray.emptyWithCapacity]
  rfl
theorem strGo_rel {L:Nat}:∀ {cs cs':List Value} {l:List UInt8},VRs ρ L cs cs' → strOf.strGo cs = some l → cs' = cs
 | [],cs',l,hv,h => List.length_eq_zero_iff.1 hv.len.symm
 | c :: cs,cs',l,hv,h => by
  obtain ⟨c',cs'',rfl,h1,h2⟩:=hv.uncons
  unfold strOf.strGo at h
  split at h
  ·simp at *
  ·rename_i n cs2 heq
   obtain ⟨rfl,rfl⟩:=List.cons.inj heq
   obtain ⟨l',h3,h4⟩:=Option.bind_eq_some_iff.1 h
   rw [h1.int_inv,strGo_rel h2 h3]
  ·simp at h
theorem conv_bytes (hs:St P C.T ρ e m a w) {s t:TypeId} {x:Operand} {el:Nat} {p:Option Addr} {n c:Nat} (hs1:(C.T s).d = .slice el) (ht1:(C.T t).d = .str) (hx:opnd e x = some (.slice p n c))
 (h:(bif isU8 (C.T el).d then (rdSl m p n 1).bind fun cs => (strOf cs).bind fun s => K (.string s) m else none) = some r):∃ v m',K v m' = some r ∧ Did P a ⟨dst,.convert s t x,ty,pos,after,guard⟩ ρ m w v m':=by
 cases hu8:isU8 (C.T el).d with
 | false => rw [hu8] at h;simp at h
 | true =>
  rw [hu8] at h
  simp only [cond_true,Option.bind_eq_some_iff] at h
  obtain ⟨cs,hcs,st,hst,hK⟩:=h
  have h1:=(hs.tok s (by rw [hs1];simp)).desc
  have h2:=(hs.tok t (by rw [ht1];simp)).desc
  rw [hs1] at h1;rw [ht1] at h2
  have h3:=(hs.tok el h1.2).desc
  have hel:(C.T el).d = .int .u8:=by
   unfold isU8 at hu8
   split at hu8
   ·assumption
   ·simp at hu8
  rw [hel] at h3
  have hx':=opnd_sound hs.env hx
  obtain ⟨l,hl1,hl2⟩:=strOf_eq hst
  refine ⟨_,m,hK,.here hs.mem (v':=.string st) ?_ (.str _)⟩
  have conv:(convert s t (a.eval x)).run P w = ((Conv.bytesToString (a.eval x)).run P w):=by
   rcases hx'.sl_inv with ⟨rfl,rfl,rfl,h6⟩ | ⟨b,b',c',rfl,h6,_⟩ <;> simp only [h6] <;> simp [convert,under w h1.1,under w h2,under w h3]
  simp only [execOp,Sem.run_bind,conv]
  rcases hx'.sl_inv with ⟨rfl,rfl,rfl,h6⟩ | ⟨b,b',c',rfl,h6,h7,h8⟩
  ·simp only [rdSl,if_true,Option.some.injEq] at hcs
   subst hcs
   simp only [strOf,Option.some.injEq] at hst;subst hst
   simp [h6,Conv.bytesToString]
  ·obtain ⟨cs',e1,e2,e3⟩:=rdSl_sound (P:=P) hs.mem hcs hx' (Nat.le_refl _)
   rw [strGo_rel e2 hl1] at e1
   have e1:=e1 w rfl
   rw [h6] at e1 ⊢
   simp only [Builtin.firstCells,Nat.mul_one] at e1
   simp only [Conv.bytesToString,Sem.run_bind,e1,Result.andThen_ok]
   rw [← Array.forIn_toList]
   have:=strGo_fold (P:=P) (w:=w) ByteArray.empty hl1
   refine Eq.trans (congrArg (fun z:Result ByteArray => (z.andThen fun a w' => Result.ok (Value.string a) w').andThen fun a w' => Result.ok (Next.value a) w') this) ?_
   simp [hl2]
theorem op_convert (hs:St P C.T ρ e m a w) {s t:TypeId} {x:Operand} (h:oper C (.convert s t x) e m K = some r):∃ v m',K v m' = some r ∧ Did P a ⟨dst,.convert s t x,ty,pos,after,guard⟩ ρ m w v m':=by
 simp only [oper] at h
 split at h
 ·rename_i k1 k k2 n hs1 ht1 hx
  have hx':=(opnd_sound hs.env hx).int_inv
  have h1:=(hs.tok s (by rw [hs1];simp)).desc
  have h2:=(hs.tok t (by rw [ht1];simp)).desc
  rw [hs1] at h1;rw [ht1] at h2
  refine ⟨_,m,h,.here hs.mem (v':=.int k (k.wrap n)) ?_ (.int _ _)⟩
  simp [execOp,convert,under w h1,under w h2,hx',Conv.intToInt]
 ·rename_i s0 hs1 ht1 hx
  have hx':=(opnd_sound hs.env hx).str_inv
  have h1:=(hs.tok s (by rw [hs1];simp)).desc
  have h2:=(hs.tok t (by rw [ht1];simp)).desc
  rw [hs1] at h1;rw [ht1] at h2
  refine ⟨_,m,h,.here hs.mem (v':=.string s0) ?_ (.str _)⟩
  simp [execOp,convert,under w h1,under w h2,hx']
 ·rename_i el p n c hs1 ht1 hx
  exact conv_bytes hs hs1 ht1 hx h
 ·simp at h
end
end Go.Mx
