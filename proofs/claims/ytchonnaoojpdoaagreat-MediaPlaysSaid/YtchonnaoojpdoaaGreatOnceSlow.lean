import Derived.Test.YtchonnaoojpdoaaGreatOnce
set_option linter.unusedVariables false
set_option linter.unusedSectionVars false
set_option linter.unusedSimpArgs false
namespace Go.Proofs.YtchonnaoojpdoaaGreat.Once
open Go.Proofs
set_option maxRecDepth 100000 in
set_option maxHeartbeats 1600000 in
theorem slow_any (b off:Nat) (pl:Addr) (w:World) (Q:World → Prop)
 (h0:w.cell? ⟨b,off,none⟩ = some (.int .u32 0)) (h1:w.cell? ⟨b,off + 1,none⟩ = some (.int .i32 0))
 (f0:w.frozen? ⟨b,off,none⟩ = false) (f1:w.frozen? ⟨b,off + 1,none⟩ = false)
 (hcall:Calls Tryz.prog 116 #[.pointer (some pl)] (w.setCell ⟨b,off + 1,none⟩ (.int .i32 1)) fun e w2 => e = .returned (.tuple #[]) ∧ Q w2)
 (hQ:∀ w2,Q w2 → w2.cell? ⟨b,off,none⟩ = some (.int .u32 0) ∧ w2.frozen? ⟨b,off,none⟩ = false ∧ w2.cell? ⟨b,off + 1,none⟩ = some (.int .i32 1) ∧ w2.frozen? ⟨b,off + 1,none⟩ = false) :
 Calls Tryz.prog 129 #[.pointer (some ⟨b,off,none⟩),.func (.func 116) #[.pointer (some pl)] #[]] w fun e w' => e = .returned (.tuple #[]) ∧
  ∃ w2,Q w2 ∧ w' = (w2.drew.setCell ⟨b,off,none⟩ (.int .u32 1)).setCell ⟨b,off + 1,none⟩ (.int .i32 0):=by
 have hl:=run_call_load (P:=Tryz.prog) Tryz.func132 (by kernel_rfl) (by kernel_rfl) (by kernel_rfl) .u32 (by kernel_rfl) (w:=w.setCell ⟨b,off + 1,none⟩ (.int .i32 1)) (a:=⟨b,off,none⟩) (x:=0) ((World.cell?_setCell_other _ ⟨b,off + 1,none⟩ ⟨b,off,none⟩ _ (by simp)).trans h0)
 have hnot:∀ (x:Bool) (w:World),(Op.unary .not (.bool x)).run Tryz.prog w = .ok (.bool (!x)) w:=fun _ _ => rfl
 go_enter_defers Tryz.func129,Tryz.ntmps129
 go_wp2_with (first | (go_at_call 133;refine (lock_free ⟨b,off + 1,none⟩ _ (by go_simp) (by go_simp)).mono ?_;rintro e w' ⟨rfl,rfl⟩) | (go_at_call 116;refine hcall.mono ?_;rintro e w2 ⟨rfl,hq⟩) | (go_at_call 128;refine (bool_load ⟨b,off,none⟩ 0 _ ((World.cell?_setCell_other _ ⟨b,off + 1,none⟩ ⟨b,off,none⟩ _ (by simp)).trans h0)).mono ?_;rintro e w' ⟨rfl,rfl⟩))
 obtain ⟨q1,q2,q3,q4⟩:=hQ _ hq
 refine leaves_cons (f:=135) (args:=#[.pointer (some ⟨b,off,none⟩),.bool true]) (by simp) (by simp [go_sem]) ?_
 refine (store_deferred ⟨b,off,none⟩ (.int .u32 0) .returning _ q1 q2).mono ?_
 rintro e u' w'' ⟨rfl,rfl,rfl⟩
 refine leaves_cons (f:=134) (args:=#[.pointer (some ⟨b,off + 1,none⟩)]) (by simp [settle]) (by simp [go_sem]) ?_
 refine (unlock_deferred ⟨b,off + 1,none⟩ _ _ ?_ (by simp [q4])).mono ?_
 ·refine (World.cell?_setCell_other _ ⟨b,off,none⟩ ⟨b,off + 1,none⟩ _ (by simp)).trans ?_
  rw [World.cell?_drew]
  exact q3
 rintro e u' w'' ⟨rfl,rfl,rfl⟩
 exact ⟨.tuple #[],by simp [settle,results,Tryz.results129],rfl,w2,hq,rfl⟩
set_option maxRecDepth 100000 in
theorem do_done (a:Addr) (d:Int) (hd:¬ d = 0) (fv:Value) (w:World) (h0:w.cell? a = some (.int .u32 d)) :
 Calls Tryz.prog 115 #[.pointer (some a),fv] w fun e w' => e = .returned (.tuple #[]) ∧ w' = w:=by
 have hnot:∀ (x:Bool) (w:World),(Op.unary .not (.bool x)).run Tryz.prog w = .ok (.bool (!x)) w:=fun _ _ => rfl
 have hd':(d != 0) = true:=by simp [hd]
 go_enter Tryz.func115,Tryz.ntmps115
 go_wp2_with (first | (go_at_call 128;refine (bool_load a d _ h0).mono ?_;rintro e w' ⟨rfl,rfl⟩))
 go_end0
 exact ⟨rfl,rfl⟩
set_option maxRecDepth 100000 in
theorem do_first (b off:Nat) (pl:Addr) (w:World) (Q:World → Prop)
 (h0:w.cell? ⟨b,off,none⟩ = some (.int .u32 0)) (h1:w.cell? ⟨b,off + 1,none⟩ = some (.int .i32 0))
 (f0:w.frozen? ⟨b,off,none⟩ = false) (f1:w.frozen? ⟨b,off + 1,none⟩ = false)
 (hcall:Calls Tryz.prog 116 #[.pointer (some pl)] (w.setCell ⟨b,off + 1,none⟩ (.int .i32 1)) fun e w2 => e = .returned (.tuple #[]) ∧ Q w2)
 (hQ:∀ w2,Q w2 → w2.cell? ⟨b,off,none⟩ = some (.int .u32 0) ∧ w2.frozen? ⟨b,off,none⟩ = false ∧ w2.cell? ⟨b,off + 1,none⟩ = some (.int .i32 1) ∧ w2.frozen? ⟨b,off + 1,none⟩ = false) :
 Calls Tryz.prog 115 #[.pointer (some ⟨b,off,none⟩),.func (.func 116) #[.pointer (some pl)] #[]] w fun e w' => e = .returned (.tuple #[]) ∧
  ∃ w2,Q w2 ∧ w' = (w2.drew.setCell ⟨b,off,none⟩ (.int .u32 1)).setCell ⟨b,off + 1,none⟩ (.int .i32 0):=by
 have hnot:∀ (x:Bool) (w:World),(Op.unary .not (.bool x)).run Tryz.prog w = .ok (.bool (!x)) w:=fun _ _ => rfl
 go_enter Tryz.func115,Tryz.ntmps115
 go_wp2_with (first | (go_at_call 129;refine (slow_any b off pl _ Q h0 h1 f0 f1 hcall hQ).mono ?_;rintro e w' ⟨rfl,hq⟩) | (go_at_call 128;refine (bool_load ⟨b,off,none⟩ 0 _ h0).mono ?_;rintro e w' ⟨rfl,rfl⟩))
 go_end0
 exact ⟨rfl,hq⟩
end Go.Proofs.YtchonnaoojpdoaaGreat.Once
namespace Go.Mx
def onceDo (p0:Option Addr) (mk:Mem → Option Mem) (m:Mem):Option Mem :=
 p0.bind fun a => (ldInt .u32 m a).bind fun d => bif d == 0 then
  (ldInt .i32 m (plus a 1)).bind fun s => bif s == 0 then
    (st m (plus a 1) (.int .i32 1)).bind fun m1 => (mk m1).bind fun m2 => (ldInt .u32 m2 a).bind fun d2 => bif d2 == 0 then
      (ldInt .i32 m2 (plus a 1)).bind fun s2 => bif s2 == 1 then (st m2 a (.int .u32 1)).bind fun m3 => st m3 (plus a 1) (.int .i32 0) else none
    else none
  else none
 else some m
set_option maxRecDepth 100000 in
theorem once_ok {pl:Addr} {mk:Mem → Option Mem} (hmk:∀ m r,mk m = some r → CallP Go.Proofs.Tryz.prog 116 [.pointer (some pl)] m fun v m' => v = .tuple ⟨[]⟩ ∧ m' = r) {p0:Option Addr} {m r:Mem} (h:onceDo p0 mk m = some r) :
 CallP Go.Proofs.Tryz.prog 115 [.pointer p0,.func (.func 116) ⟨[.pointer (some pl)]⟩ ⟨[]⟩] m fun v m' => v = .tuple ⟨[]⟩ ∧ m' = r:=by
 refine CallP.of_calls Go.Proofs.Tryz.func115 (by kernel_rfl) (by kernel_rfl) ?_
 intro ρ w args hm hl ha
 unfold onceDo at h
 obtain ⟨a,rfl,h0⟩:=Option.bind_eq_some_iff.1 h
 clear h
 obtain ⟨d,hd,h⟩:=Option.bind_eq_some_iff.1 h0
 clear h0
 obtain ⟨x,e1,e2⟩:=ha 0 _ rfl
 obtain ⟨y,e3,e4⟩:=ha 1 _ rfl
 match args,hl with
 | [x',y'],_ =>
  simp at e1 e3;subst e1;subst e3
  obtain ⟨rfl,hlt⟩:=e2.ptr_inv
  obtain ⟨fa',ca',rfl,k1,k2,k3,_⟩:=e4.fn_inv
  obtain ⟨z,g1,g2⟩:=k3 0 _ rfl
  obtain ⟨rfl,hpl⟩:=g2.ptr_inv
  have hfa:fa' = [.pointer (some (toR ρ pl))]:=by
   match fa',k1 with
   | [z],_ => simp at g1;rw [g1]
  have hca:ca' = []:=List.eq_nil_of_length_eq_zero (by rw [← k2];rfl)
  subst hfa;subst hca
  obtain ⟨cs,c1,c2⟩:=ldInt_inv hd
  obtain ⟨v',d1,d2⟩:=hm.cell c1 c2
  have d3:=d2.int_inv
  subst d3
  by_cases hz:d = 0
  ·subst hz
   simp only [beq_self_eq_true,cond_true] at h
   obtain ⟨s,hs,h⟩:=Option.bind_eq_some_iff.1 h
   cases hs0:(s == 0) with
   | false => rw [hs0] at h;cases h
   | true =>
    have hs1:s = 0:=by simpa using hs0
    subst hs1
    simp only [beq_self_eq_true,cond_true] at h
    obtain ⟨m1,hm1,h⟩:=Option.bind_eq_some_iff.1 h
    obtain ⟨m2,hm2,h⟩:=Option.bind_eq_some_iff.1 h
    obtain ⟨d',hd',h⟩:=Option.bind_eq_some_iff.1 h
    cases hz':(d' == 0) with
    | false => rw [hz'] at h;cases h
    | true =>
     have hz2:d' = 0:=by simpa using hz'
     subst hz2
     simp only [beq_self_eq_true,cond_true] at h
     obtain ⟨s',hs',h⟩:=Option.bind_eq_some_iff.1 h
     cases hw':(s' == 1) with
     | false => rw [hw'] at h;cases h
     | true =>
      have hw2:s' = 1:=by simpa using hw'
      subst hw2
      simp only [beq_self_eq_true,cond_true] at h
      obtain ⟨m3,hm3,hm4⟩:=Option.bind_eq_some_iff.1 h
      obtain ⟨csb,b1,b2⟩:=ldInt_inv hs
      obtain ⟨vb,b3,b4⟩:=hm.cell b1 b2
      have b5:=b4.int_inv
      subst b5
      obtain ⟨cs1,s1,s2,s3⟩:=st_inv hm1
      obtain ⟨old1,t1,t2,t3,t4⟩:=hm.setCell s1 s2 (VR.int (ρ:=ρ) (L:=m.length) .i32 1) rfl
      rw [← s3] at t3 t4
      have elive:cs1 = cs:=by
       have:=cells_iff.2 (.inl (wcells_iff.1 s1))
       rw [show (plus a 1).block = a.block from rfl,c1] at this
       simpa using this.symm
      have s2':a.off + 1 < cs1.length:=s2
      obtain ⟨_,_,f0,_,_⟩:=hm.setCell (b:=a.block) (o:=a.off) s1 (by omega) (VR.int (ρ:=ρ) (L:=m.length) .u32 1) rfl
      have hcall:=(hmk m1 m2 hm2).calls Go.Proofs.Tryz.func116 (by kernel_rfl) (by kernel_rfl) t3 (args:=[.pointer (some (toR ρ pl))]) rfl (by
       intro i v hi
       cases i with
       | zero =>
        simp at hi;subst hi
        exact ⟨_,rfl,.ptr pl (by have:=t4.len;omega)⟩
       | succ i => simp at hi)
      have hdo:=Go.Proofs.YtchonnaoojpdoaaGreat.Once.do_first (ρ.blk a.block) (ρ.sh a.block + a.off) (toR ρ pl) w (fun w2 => ∃ ρ',MRep ρ' m2 w2 ∧ Evo ρ m1 (w.setCell ⟨ρ.blk a.block,ρ.sh a.block + a.off + 1,none⟩ (.int .i32 1)) ρ' m2 w2)
       d1 b3 f0 t2 (hcall.mono (by
        rintro en w2 ⟨v,m',v',ρ',rfl,⟨rfl,rfl⟩,hv,hr,he⟩
        refine ⟨?_,ρ',hr,he⟩
        obtain ⟨cs',rfl,hl',_⟩:=hv.tuple_inv
        have:cs' = []:=List.eq_nil_of_length_eq_zero (by rw [← hl'];rfl)
        rw [this])) ?_
      ·refine hdo.mono ?_
       rintro en w' ⟨rfl,w2,⟨ρ',hr,he⟩,rfl⟩
       obtain ⟨hr',he'⟩:=hr.drawn (w':=w2.drew) rfl rfl rfl rfl
       have hag:=he.agree a.block (by have:=t4.len;omega)
       obtain ⟨cs3,u1,u2,u3⟩:=st_inv hm3
       obtain ⟨_,_,_,u6,u7⟩:=hr'.setCell u1 u2 (VR.int (ρ:=ρ') (L:=m2.length) .u32 1) rfl
       rw [← u3,hag.blk,hag.sh] at u6 u7
       obtain ⟨cs4,x1,x2,x3⟩:=st_inv hm4
       obtain ⟨_,_,_,x6,x7⟩:=u6.setCell x1 x2 (VR.int (ρ:=ρ') (L:=m3.length) .i32 0) rfl
       rw [← x3,show (plus a 1).block = a.block from rfl,hag.blk,hag.sh] at x6 x7
       exact ⟨.tuple ⟨[]⟩,r,.tuple ⟨[]⟩,ρ',rfl,⟨rfl,rfl⟩,.tuple _ _ rfl (by simp),x6,((t4.trans he).trans he').trans (u7.trans x7)⟩
      ·rintro w2 ⟨ρ',hr,he⟩
       have hag:=he.agree a.block (by have:=t4.len;omega)
       obtain ⟨cs3,u1,u2,u3⟩:=st_inv hm3
       obtain ⟨_,_,u5,_,_⟩:=hr.setCell u1 u2 (VR.int (ρ:=ρ') (L:=m2.length) .u32 1) rfl
       obtain ⟨csd,y1,y2⟩:=ldInt_inv hd'
       obtain ⟨vd,y3,y4⟩:=hr.cell y1 y2
       have y5:=y4.int_inv
       subst y5
       obtain ⟨cse,z1,z2⟩:=ldInt_inv hs'
       obtain ⟨ve,z3,z4⟩:=hr.cell z1 z2
       have z5:=z4.int_inv
       subst z5
       have hlen:a.off + 1 < cs3.length:=by
        have:=cells_iff.2 (.inl (wcells_iff.1 u1))
        rw [show (plus a 1).block = a.block from rfl,this] at z1
        simp only [Option.some.injEq] at z1
        subst z1
        exact (List.getElem?_eq_some_iff.1 z2).1
       obtain ⟨_,_,u5',_,_⟩:=hr.setCell (o:=a.off + 1) u1 hlen (VR.int (ρ:=ρ') (L:=m2.length) .i32 1) rfl
       unfold toR at y3 z3
       rw [show (plus a 1).block = a.block from rfl] at z3
       rw [hag.blk,hag.sh] at y3 z3 u5 u5'
       exact ⟨y3,u5,z3,u5'⟩
  ·have hb:(d == 0) = false:=by simp [hz]
   rw [hb] at h
   simp only [cond_false,Option.some.injEq] at h
   subst h
   refine (Go.Proofs.YtchonnaoojpdoaaGreat.Once.do_done (toR ρ a) d hz _ w d1).mono ?_
   rintro en w' ⟨rfl,rfl⟩
   exact ⟨.tuple ⟨[]⟩,m,.tuple ⟨[]⟩,ρ,rfl,⟨rfl,rfl⟩,.tuple _ _ rfl (by simp),hm,Evo.refl _ _ _⟩
end Go.Mx
