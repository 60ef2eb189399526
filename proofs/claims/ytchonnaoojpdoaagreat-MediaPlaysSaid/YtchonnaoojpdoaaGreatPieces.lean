import Derived.Test.YtchonnaoojpdoaaGreatProg
import Derived.Test.YtchonnaoojpdoaaGreatMxSl
import Derived.Test.YtchonnaoojpdoaaGreatMxPrim
set_option linter.unusedVariables false
set_option linter.unusedSimpArgs false
set_option maxRecDepth 100000
namespace Go.Proofs.YtchonnaoojpdoaaGreat.Pieces
open Go.Mx Go.Proofs
abbrev pid:Nat:=106
abbrev tI:Nat:=3
abbrev tB:Nat:=4
abbrev tS:Nat:=56
abbrev tU:Nat:=5
def T0:TT:=tabT [(tI,⟨.int .i64,1,8,[.int .i64 0],none⟩),(tB,⟨.bool,1,1,[.bool false],none⟩),(tS,⟨.slice tU,1,24,[.slice none 0 0],none⟩),(tU,⟨.int .u8,1,1,[.int .u8 0],none⟩)]
theorem tOk0:TOk Tryz.prog T0:=tabT_ok (by kernel_rfl)
abbrev Rr:=Nat × Env × Mem
def C0:Ctx Rr:=⟨T0,callNil,fun _ _ _ _ => none,[],[]⟩
abbrev K0:KX Rr:=fun x e m => some (x,e,m)
abbrev yl (l:Nat):Value:=.func (.yield l) #[] #[]
abbrev eK (l:Nat) (p q:Addr) (s:Int):Env:=[(4,.int .i64 s),(0,yl l),(1,.pointer (some p)),(2,.pointer (some q))]
def hd:Code → Code | .seq a _ => a | c => c
def tl:Code → Code | .seq _ b => b | c => c
def ib:Code → Code | .block _ c => c | c => c
def il:Code → Code | .loop c => c | c => c
noncomputable def cb:Code:=Tryz.f106.body.getD .skip
noncomputable def c0:Code:=hd cb
noncomputable def cl:Code:=il (ib (tl cb))
noncomputable def c1:Code:=hd cl
noncomputable def c3:Code:=hd (ib (hd (tl cl)))
noncomputable def c4:Code:=tl (ib (hd (tl cl)))
noncomputable def c2:Code:=tl (tl cl)
noncomputable def ops3:Array Oper:=match c3 with | .region _ os _ => os | _ => #[]
noncomputable def id3:Nat:=match c3 with | .region i _ _ => i | _ => 0
theorem cb_eq:cb = .seq c0 (.block 0 (.loop (.seq c1 (.seq (.block 1 (.seq (.region id3 ops3 false) c4)) c2)))):=by kernel_rfl
theorem e0 (l:Nat) (p q:Addr) (m:Mem):exec C0 0 c0 [(0,yl l),(1,.pointer (some p)),(2,.pointer (some q))] m K0 = some (1,eK l p q 0,m):=by kernel_rfl
theorem e1 (l:Nat) (p q:Addr) (s:Int) (m:Mem):∃ E:Int → Sl → Env,(∀ z b,lk 0 (E z b) = some (yl l) ∧ lk 1 (E z b) = some (.pointer (some p)) ∧ lk 2 (E z b) = some (.pointer (some q)) ∧ lk 4 (E z b) = some (.int .i64 s)) ∧
 exec C0 0 c1 (eK l p q s) m K0 = (ldInt .i64 m p).bind fun z => (ldSl m q).bind fun b => bif decide (IntKind.wrap .i64 (s * z) < ((b.len:Nat):Int)) then some (1,E z b,m) else some (2,E z b,m) :=
 ⟨fun z b => (10,.bool (decide (IntKind.wrap .i64 (s * z) < ((b.len:Nat):Int)))) :: (9,.int .i64 ((b.len:Nat):Int)) :: (8,.slice b.a b.len b.cap) :: (7,.int .i64 (IntKind.wrap .i64 (s * z))) :: (6,.int .i64 z) :: (5,.int .i64 s) :: eK l p q s,
  fun z b => ⟨rfl,rfl,rfl,rfl⟩,by kernel_rfl⟩
noncomputable def os3:List Oper:=ops3.toList.take 11
noncomputable def o4:Oper:=ops3.toList.getD 11 default
noncomputable def o5:Oper:=ops3.toList.getD 12 default
theorem ops3_eq:ops3.toList = os3 ++ [o4,o5]:=by kernel_rfl
theorem o4_eq:o4.guard = none ∧ o4.dst = some 24 ∧ ∃ ts,o4.op = .call { callee:=.value (.tmp 13),args:=#[.tmp 14,.tmp 23],argTypes:=ts }:=⟨by kernel_rfl,by kernel_rfl,#[tI,tS],by kernel_rfl⟩
theorem o5_eq:o5.guard = none ∧ o5.dst = some 25 ∧ ∃ t,o5.op = .unOp .not t (.tmp 24):=⟨by kernel_rfl,by kernel_rfl,tB,by kernel_rfl⟩
theorem c4_eq:c4 = .cond (.tmp 25) .ret .skip:=by kernel_rfl
abbrev hiI (s z:Int):Int:=IntKind.wrap .i64 (IntKind.wrap .i64 (s + 1) * z)
abbrev loI (s z:Int):Int:=IntKind.wrap .i64 (s * z)
abbrev slP (s z:Int) (b:Sl):Sl:=⟨(sliceK.clear b.a false).map fun a => plus a ((loI s z).toNat * 1),(hiI s z).toNat - (loI s z).toNat,b.cap - (loI s z).toNat⟩
theorem e3 (l:Nat) (p q:Addr) (s:Int) (m:Mem):∃ E:Int → Sl → Env,(∀ z b,lk 0 (E z b) = some (yl l) ∧ lk 1 (E z b) = some (.pointer (some p)) ∧ lk 2 (E z b) = some (.pointer (some q)) ∧ lk 4 (E z b) = some (.int .i64 s) ∧
 lk 13 (E z b) = some (yl l) ∧ lk 14 (E z b) = some (.int .i64 s) ∧ lk 23 (E z b) = some (.slice (slP s z b).a (slP s z b).len (slP s z b).cap)) ∧
 opsX C0 ops3.toList os3 (eK l p q s) m (fun e m => some ((1,e,m):Rr)) = (ldSl m q).bind fun b => (ldInt .i64 m p).bind fun z => (ldInt .i64 m p).bind fun z2 =>
  bif sliceK.okZ b.a 1 false && inUpto (IntKind.wrap .i64 (IntKind.wrap .i64 (s + 1) * z2)) b.cap && inUpto (loI s z) (IntKind.wrap .i64 (IntKind.wrap .i64 (s + 1) * z2)).toNat then
   some (1,(23,.slice ((sliceK.clear b.a false).map fun a => plus a ((loI s z).toNat * 1)) ((IntKind.wrap .i64 (IntKind.wrap .i64 (s + 1) * z2)).toNat - (loI s z).toNat) (b.cap - (loI s z).toNat)) ::
    (22,.int .i64 (IntKind.wrap .i64 (IntKind.wrap .i64 (s + 1) * z2))) :: (21,.int .i64 z2) :: (20,.int .i64 (IntKind.wrap .i64 (s + 1))) :: (19,.int .i64 s) :: (18,.int .i64 (loI s z)) :: (17,.int .i64 z) :: (16,.int .i64 s) :: (15,.slice b.a b.len b.cap) :: (14,.int .i64 s) :: (13,yl l) :: eK l p q s,m) else none:=by
 refine ⟨fun z b => (23,.slice (slP s z b).a (slP s z b).len (slP s z b).cap) ::
  (22,.int .i64 (hiI s z)) :: (21,.int .i64 z) :: (20,.int .i64 (IntKind.wrap .i64 (s + 1))) :: (19,.int .i64 s) :: (18,.int .i64 (loI s z)) :: (17,.int .i64 z) :: (16,.int .i64 s) :: (15,.slice b.a b.len b.cap) :: (14,.int .i64 s) :: (13,yl l) :: eK l p q s,fun z b => ⟨rfl,rfl,rfl,rfl,rfl,rfl,rfl⟩,by kernel_rfl⟩
theorem e2 (l:Nat) (p q:Addr) (s:Int) (m:Mem):exec C0 0 c2 (eK l p q s) m K0 = some (1,(4,.int .i64 (IntKind.wrap .i64 (s + 1))) :: (12,.int .i64 (IntKind.wrap .i64 (s + 1))) :: (11,.int .i64 s) :: eK l p q s,m):=by kernel_rfl
theorem yl_inv {ρ L l v} (h:VR ρ L (yl l) v):v = yl l:=by cases h;rfl
structure Facts (l:Nat) (x1 x2:Value) (s:Int) (a:Act):Prop where
 defers:a.defers = []
 size:a.tmps.size = 26
 t0:a.tmps.getD 0 undef = yl l
 t1:a.tmps.getD 1 undef = x1
 t2:a.tmps.getD 2 undef = x2
 t4:a.tmps.getD 4 undef = .int .i64 s
abbrev noB:Nat → Prop:=fun _ => False
theorem Facts.fr {l x1 x2 s a ρ m w p q} (h:Facts l x1 x2 s a) (hm:MRep ρ m w) (h1:VR ρ m.length (.pointer (some p)) x1) (h2:VR ρ m.length (.pointer (some q)) x2):Fr Tryz.prog T0 26 noB ρ (eK l p q s) m a w:=by
 refine ⟨⟨tOk0,?_,hm⟩,h.size,⟨[],by rw [h.defers];rfl,List.nodup_nil,by simp⟩⟩
 intro t v ht
 simp only [lk] at ht
 have key:∀ (k:Nat) (u:Value),Nat.beq k t = true → k < 26 → VR ρ m.length u (a.tmps.getD k undef) → u = v → t < a.tmps.size ∧ VR ρ m.length v (a.tmps.getD t undef):=by
  intro k u hk hl hv hu
  have:=Nat.eq_of_beq_eq_true hk
  subst this;subst hu
  exact ⟨by rw [h.size];exact hl,hv⟩
 cases b4:Nat.beq 4 t with
 | true => rw [b4] at ht;exact key 4 _ b4 (by omega) (by rw [h.t4];exact .int _ _) (Option.some.inj ht)
 | false =>
  rw [b4] at ht;simp only [cond_false] at ht
  cases b0:Nat.beq 0 t with
  | true => rw [b0] at ht;exact key 0 _ b0 (by omega) (by rw [h.t0];exact .yld l) (Option.some.inj ht)
  | false =>
   rw [b0] at ht;simp only [cond_false] at ht
   cases b1:Nat.beq 1 t with
   | true => rw [b1] at ht;exact key 1 _ b1 (by omega) (by rw [h.t1];exact h1) (Option.some.inj ht)
   | false =>
    rw [b1] at ht;simp only [cond_false] at ht
    cases b2:Nat.beq 2 t with
    | true => rw [b2] at ht;exact key 2 _ b2 (by omega) (by rw [h.t2];exact h2) (Option.some.inj ht)
    | false => rw [b2] at ht;simp at ht
theorem Facts.of {l x1 x2 s a ρ m w p q e} (h:Fr Tryz.prog T0 26 noB ρ e m a w) (h1:VR ρ m.length (.pointer (some p)) x1) (h2:VR ρ m.length (.pointer (some q)) x2)
 (k0:lk 0 e = some (yl l)) (k1:lk 1 e = some (.pointer (some p))) (k2:lk 2 e = some (.pointer (some q))) (k4:lk 4 e = some (.int .i64 s)):Facts l x1 x2 s a:=by
 refine ⟨?_,h.size,yl_inv (h.st.env _ _ k0).2,(h.st.env _ _ k1).2.ptr_inv.1.trans h1.ptr_inv.1.symm,(h.st.env _ _ k2).2.ptr_inv.1.trans h2.ptr_inv.1.symm,(h.st.env _ _ k4).2.int_inv⟩
 obtain ⟨Ds,d1,_,d3⟩:=h.defers
 cases Ds with
 | nil => simpa using d1
 | cons D Ds => exact (d3 D (by simp)).1.elim
theorem getD_app {A:List Value} {n k:Nat} {v:Value} (h:A[k]? = some v):((⟨A⟩:Array Value) ++ Array.replicate n undef).getD k undef = v:=by
 have hk:k < A.length:=(List.getElem?_eq_some_iff.1 h).1
 rw [Array.getD,dif_pos (by simp;omega)]
 simp only [Array.getInternal_eq_getElem]
 rw [Array.getElem_append_left (by simpa using hk)]
 rw [List.getElem?_eq_getElem hk] at h
 simpa using h
theorem size_app {A:List Value} {n k:Nat} {v:Value} (h:A[k]? = some v):k < ((⟨A⟩:Array Value) ++ Array.replicate n undef).size:=by
 have hk:k < A.length:=(List.getElem?_eq_some_iff.1 h).1
 simp;omega
theorem env_app {ρ L n} {A:List Value} {e:Env} (h:∀ t v,lk t e = some v → ∃ u,A[t]? = some u ∧ VR ρ L v u):EnvR ρ L e ((⟨A⟩:Array Value) ++ Array.replicate n undef):=by
 intro t v ht
 obtain ⟨u,h1,h2⟩:=h t v ht
 exact ⟨size_app h1,by rw [getD_app h1];exact h2⟩
theorem put_same {a:Act} {d:Nat} {v:Value} (h:d < a.tmps.size):(a.put (some d) v).tmps.getD d undef = v:=by
 simp [Act.put,Array.getD,h]
theorem put_other {a:Act} {d k:Nat} {v:Value} (h:k ≠ d):(a.put (some d) v).tmps.getD k undef = a.tmps.getD k undef:=by
 simp only [Act.put,Array.getD_eq_getD_getElem?]
 rw [Array.getElem?_setIfInBounds_ne (by omega)]
theorem mixed0:Tryz.prog.follows .mixedOrders = true:=by kernel_rfl
theorem pieces_iter:IterOk Tryz.prog pid:=by
 refine ⟨callFunc_body Tryz.func106 (by kernel_rfl) (by kernel_rfl),?_⟩
 intro l gv ca I S hI1 hI2 hI3 n ρ m W h0
 obtain ⟨p,q,hgv⟩:∃ p q,gv = .func (.func pid) #[] ⟨[.pointer (some p),.pointer (some q)]⟩:=by
  obtain ⟨y,hy,_⟩:=hI3 n 0 ρ m W h0
  unfold pcs at hy
  split at hy
  ·rename_i h' p q
   cases hb:Nat.beq h' pid with
   | true =>
    have:=Nat.eq_of_beq_eq_true hb
    subst this
    exact ⟨p,q,rfl⟩
   | false => rw [hb] at hy;cases hy
  ·cases hy
 subst hgv
 have hca:∀ n s ρ m W,I n s ρ m W → ∃ x1 x2,ca = [x1,x2] ∧ VR ρ m.length (.pointer (some p)) x1 ∧ VR ρ m.length (.pointer (some q)) x2:=by
  intro n s ρ m W h
  obtain ⟨fa',ca',e1,e2,e3,_,e5⟩:=(hI1 n s ρ m W h).2.fn_inv
  cases e1
  match ca,e3 with
  | [x1,x2],_ =>
   obtain ⟨v1,f1,f2⟩:=e5 0 _ rfl
   obtain ⟨v2,f3,f4⟩:=e5 1 _ rfl
   cases f1;cases f3
   exact ⟨x1,x2,rfl,f2,f4⟩
 obtain ⟨x1,x2,hcx,hx1,hx2⟩:=hca n 0 ρ m W h0
 subst hcx
 have hxs:∀ {n s ρ m W},I n s ρ m W → VR ρ m.length (.pointer (some p)) x1 ∧ VR ρ m.length (.pointer (some q)) x2:=by
  intro n s ρ m W h
  obtain ⟨y1,y2,e,f1,f2⟩:=hca n s ρ m W h
  cases e
  exact ⟨f1,f2⟩
 refine callsIn_of_wp (c:=cb) Tryz.func106 (by kernel_rfl) trivial ?_
 rw [cb_eq]
 refine wpIn_seq ?_
 have hA:(#[yl l] ++ (⟨[x1,x2]⟩:Array Value)) = ⟨[yl l,x1,x2]⟩:=by simp
 have hn:Tryz.f106.ntmps = 26:=by kernel_rfl
 have hFr0:Fr Tryz.prog T0 26 noB ρ [(0,yl l),(1,.pointer (some p)),(2,.pointer (some q))] m { tmps:=(#[yl l] ++ ⟨[x1,x2]⟩:Array Value) ++ Array.replicate (Tryz.f106.ntmps - (#[yl l] ++ ⟨[x1,x2]⟩:Array Value).size) undef,defers:=[] } W:=by
  rw [hA,hn]
  refine ⟨⟨tOk0,env_app ?_,(hI1 n 0 ρ m W h0).1⟩,by simp,⟨[],rfl,List.nodup_nil,by simp⟩⟩
  intro t v ht
  simp only [lk] at ht
  cases b0:Nat.beq 0 t with
  | true =>
   have:=Nat.eq_of_beq_eq_true b0
   subst this
   cases ht
   exact ⟨_,rfl,VR.yld l⟩
  | false =>
   rw [b0] at ht;simp only [cond_false] at ht
   cases b1:Nat.beq 1 t with
   | true =>
    have:=Nat.eq_of_beq_eq_true b1
    subst this
    cases ht
    exact ⟨_,rfl,hx1⟩
   | false =>
    rw [b1] at ht;simp only [cond_false] at ht
    cases b2:Nat.beq 2 t with
    | true =>
     have:=Nat.eq_of_beq_eq_true b2
     subst this
     cases ht
     exact ⟨_,rfl,hx2⟩
    | false => rw [b2] at ht;simp at ht
 have noL:∀ (c:Code) (cur:Nat),loopsOf cur c = [] → ∀ p ∈ loopsOf cur c,LoopOk C0 p.1 p.2:=fun c cur h p hp => by rw [h] at hp;cases hp
 have noR:∀ (c:Code) (cur:Nat) (w:World),rangesOf cur c = [] → ∀ p ∈ rangesOf cur c,(none:Option Nat) = none ∧ RangeOk Tryz.prog C0 p.1 p.2 ∧ ∀ D,w.heap.size ≤ D → noB D:=fun c cur w h p hp => by rw [h] at hp;cases hp
 refine wpIn_mono (exec_sound (C:=C0) (nt:=26) (B:=noB) mixed0 callOk_nil c0 none 0 _ m K0 ρ _ W (by kernel_rfl) (noL c0 0 (by kernel_rfl)) (noR c0 0 W (by kernel_rfl)) hFr0 (e0 l p q m)) ?_
 rintro ex a1 W1 ⟨x,e1',m1,ρ1,rfl,k1,k2,k3⟩
 cases k1
 have h1:=hI2 _ _ _ _ _ _ _ h0 k2.st.mem k3
 obtain ⟨y1,y2⟩:=hxs h1
 have g1:Facts l x1 x2 0 a1:=Facts.of k2 y1 y2 rfl rfl rfl rfl
 show (Code.block 0 _).wpIn _ _ _ _ _ _
 refine wpIn_block ?_
 refine wp_loop_n (fun n a w => ∃ s ρ m,I n s ρ m w ∧ Facts l x1 x2 s a) ?_ (n:=n) ⟨0,ρ1,_,h1,g1⟩
 clear h0 hFr0 hx1 hx2 k2 k3 h1 y1 y2 g1
 rintro n a w ⟨s,ρ,m,hI,hF⟩
 obtain ⟨v1,v2⟩:=hxs hI
 have hfr:=hF.fr (hI1 _ _ _ _ _ hI).1 v1 v2
 obtain ⟨y,hy,hy2⟩:=hI3 _ _ _ _ _ hI
 obtain ⟨E1,hE1,hx1⟩:=e1 l p q s m
 obtain ⟨E3,hE3,hx3⟩:=e3 l p q s m
 unfold pcs at hy
 simp only [Nat.beq_refl,cond_true] at hy
 obtain ⟨z,hz,hy⟩:=Option.bind_eq_some_iff.1 hy
 obtain ⟨b,hb,hy⟩:=Option.bind_eq_some_iff.1 hy
 simp only [hz,hb,Option.bind_some] at hx1
 refine wpIn_seq ?_
 cases hc:decide (IntKind.wrap .i64 (s * z) < ((b.len:Nat):Int)) with
 | false =>
  rw [hc] at hx1 hy
  simp only [cond_false,Option.some.injEq] at hx1 hy
  refine wpIn_mono (exec_sound (C:=C0) (nt:=26) (B:=noB) mixed0 callOk_nil c1 none 0 _ m K0 ρ _ w (by kernel_rfl) (noL c1 0 (by kernel_rfl)) (noR c1 0 w (by kernel_rfl)) hfr hx1) ?_
  rintro ex a2 w2 ⟨x,e2',m2,ρ2,rfl,k1,k2,k3⟩
  cases k1
  have h2:=hI2 _ _ _ _ _ _ _ hI k2.st.mem k3
  obtain ⟨y1,y2⟩:=hxs h2
  have g2:Facts l x1 x2 s a2:=Facts.of k2 y1 y2 (hE1 z b).1 (hE1 z b).2.1 (hE1 z b).2.2.1 (hE1 z b).2.2.2
  obtain ⟨y',hy',hy2'⟩:=hI3 _ _ _ _ _ h2
  have:y' = none:=by
   unfold pcs at hy'
   simp only [Nat.beq_refl,cond_true,hz,hb,Option.bind_some,hc,cond_false,Option.some.injEq] at hy'
   exact hy'.symm
  subst this
  exact ⟨g2.defers,.tuple #[],results_none (by kernel_rfl) _ _ _,⟨_,rfl⟩,hy2'⟩
 | true =>
  rw [hc] at hx1 hy
  simp only [cond_true] at hx1 hy
  refine wpIn_mono (exec_sound (C:=C0) (nt:=26) (B:=noB) mixed0 callOk_nil c1 none 0 _ m K0 ρ _ w (by kernel_rfl) (noL c1 0 (by kernel_rfl)) (noR c1 0 w (by kernel_rfl)) hfr hx1) ?_
  rintro ex a2 w2 ⟨x,e2',m2,ρ2,rfl,k1,k2,k3⟩
  cases k1
  have h2:=hI2 _ _ _ _ _ _ _ hI k2.st.mem k3
  obtain ⟨y1,y2⟩:=hxs h2
  have g2:Facts l x1 x2 s a2:=Facts.of k2 y1 y2 (hE1 z b).1 (hE1 z b).2.1 (hE1 z b).2.2.1 (hE1 z b).2.2.2
  show (Code.seq _ _).wpIn _ _ _ _ _ _
  refine wpIn_seq ?_
  refine wpIn_block ?_
  refine wpIn_seq ?_
  refine wpIn_region_list ?_
  rw [ops3_eq]
  have hcnd:(sliceK.okZ b.a 1 false && inUpto (hiI s z) b.cap && inUpto (loI s z) (hiI s z).toNat) = true:=by
   cases hh:(sliceK.okZ b.a 1 false && inUpto (hiI s z) b.cap && inUpto (loI s z) (hiI s z).toNat) with
   | true => rfl
   | false => rw [hh] at hy;cases hy
  simp only [hz,hb,Option.bind_some] at hx3
  rw [hcnd] at hx3 hy
  simp only [cond_true,Option.some.injEq] at hx3 hy
  refine opsX_soundR (ro:=none) (C:=C0) (nt:=26) (B:=noB) (rest:=[o4,o5]) callOk_nil os3 (eK l p q s) m ρ2 a2 w2 (fun o ho => List.all_eq_true.1 (show os3.all (dok 26) = true by kernel_rfl) o ho) (g2.fr k2.st.mem y1 y2) hx3 ?_
  intro e3' m3 ρ3 a3 w3 c1' c2' c3'
  cases c1'
  have h3:=hI2 _ _ _ _ _ _ _ h2 c2'.st.mem c3'
  obtain ⟨z1,z2⟩:=hxs h3
  have g3:Facts l x1 x2 s a3:=Facts.of c2' z1 z2 rfl rfl rfl rfl
  obtain ⟨k0,k1,k2',k4,k13,k14,k23⟩:=hE3 z b
  have t13:a3.tmps.getD 13 undef = yl l:=yl_inv (c2'.st.env 13 (yl l) rfl).2
  have t14:a3.tmps.getD 14 undef = .int .i64 s:=(c2'.st.env 14 (.int .i64 s) rfl).2.int_inv
  have t23:=(c2'.st.env 23 (.slice (slP s z b).a (slP s z b).len (slP s z b).cap) rfl).2
  obtain ⟨y',hy',hY⟩:=hI3 _ _ _ _ _ h3
  have hye:y' = some (slP s z b,IntKind.wrap .i64 (s + 1)):=by
   unfold pcs at hy'
   simp only [Nat.beq_refl,cond_true,hz,hb,Option.bind_some,hc] at hy'
   rw [hcnd] at hy'
   simp only [cond_true,Option.some.injEq] at hy'
   exact hy'.symm
  subst hye
  obtain ⟨fn,tmps,asg,bd,hyr,hRn⟩:=hY _ t23
  obtain ⟨q1,q2,ts,q3⟩:=o4_eq
  obtain ⟨q4,q5,ts',q6⟩:=o5_eq
  have sz:=g3.size
  unfold wpListIn
  rw [if_pos (by simp [Region.wanted,q1])]
  refine ⟨fun _ _ => trivial,?_⟩
  rw [show (fenceR none).round = none from rfl,Oper.semAt_none]
  have hex:(execOp a3.eval o4).run Tryz.prog w3 = .ok (.round l fn tmps asg bd) w3:=by
   have key:∀ (ev:Operand → Value) (u:Value),ev (.tmp 13) = yl l → ev (.tmp 14) = .int .i64 s → ev (.tmp 23) = u → (Instr.yield l #[.int .i64 s,u]).run Tryz.prog w3 = .ok (.round l fn tmps asg bd) w3 → (execOp ev o4).run Tryz.prog w3 = .ok (.round l fn tmps asg bd) w3:=by
    intro ev u h1 h2 h3 h4
    simp [execOp,q3,resolve,h1,h2,h3,go_sem,invoke,h4]
   exact key a3.eval _ t13 t14 rfl hyr
  rw [hex]
  refine ⟨fun hd => by simp [fenceR,Fence.wide] at hd,?_⟩
  have fin:∀ (t:Bool) (w4:World) (Q:Exit → Act → World → Prop),(∀ a5,a5.eval (.tmp 25) = .bool (!t) → Facts l x1 x2 s a5 → Q .normal a5 w4) → wpListIn (fenceR none) 0 Tryz.prog ops3 Q [o5] (a3.put o4.dst (.bool t)) w4:=by
   intro t w4 Q hQ
   unfold wpListIn
   rw [if_pos (by simp [Region.wanted,q4])]
   refine ⟨fun _ _ => trivial,?_⟩
   rw [show (fenceR none).round = none from rfl,Oper.semAt_none]
   have hex2:(execOp (a3.put o4.dst (.bool t)).eval o5).run Tryz.prog w4 = .ok (.value (.bool !t)) w4:=by
    have key:∀ (ev:Operand → Value),ev (.tmp 24) = .bool t → (execOp ev o5).run Tryz.prog w4 = .ok (.value (.bool !t)) w4:=by
     intro ev h1
     have hnot:∀ (x:Bool) (w:World),(Op.unary .not (.bool x)).run Tryz.prog w = .ok (.bool (!x)) w:=fun _ _ => rfl
     simp [execOp,q6,h1,go_sem,hnot]
    exact key _ (by rw [q2];exact put_same (by rw [sz];omega))
   rw [hex2]
   refine hQ ((a3.put o4.dst (.bool t)).put o5.dst (.bool !t)) ?_ ?_
   ·rw [q2,q5]
    exact put_same (by rw [put_size,sz];omega)
   ·rw [q2,q5]
    refine ⟨by rw [put_defers,put_defers];exact g3.defers,by rw [put_size,put_size];exact sz,?_,?_,?_,?_⟩
    ·rw [put_other (by omega),put_other (by omega)];exact g3.t0
    ·rw [put_other (by omega),put_other (by omega)];exact g3.t1
    ·rw [put_other (by omega),put_other (by omega)];exact g3.t2
    ·rw [put_other (by omega),put_other (by omega)];exact g3.t4
  refine RoundIn.mono hRn ?_
  rintro e w4 (⟨rfl,n',ρ4,m4,hlt,h4⟩ | ⟨rfl,hS⟩)
  ·refine fin true w4 _ fun a5 v25 g5 => ?_
   show c4.wpIn _ _ _ _ _ _
   rw [c4_eq]
   refine wpIn_cond_false v25 (wpIn_skip ?_)
   show c2.wpIn _ _ _ _ _ _
   obtain ⟨u1,u2⟩:=hxs h4
   refine wpIn_mono (exec_sound (C:=C0) (nt:=26) (B:=noB) mixed0 callOk_nil c2 none 0 _ m4 K0 ρ4 _ w4 (by kernel_rfl) (noL c2 0 (by kernel_rfl)) (noR c2 0 w4 (by kernel_rfl)) (g5.fr (hI1 _ _ _ _ _ h4).1 u1 u2) (e2 l p q s m4)) ?_
   rintro ex a6 w6 ⟨x,e6,m6,ρ6,rfl,r1,r2,r3⟩
   cases r1
   have h6:=hI2 _ _ _ _ _ _ _ h4 r2.st.mem r3
   obtain ⟨u3,u4⟩:=hxs h6
   exact ⟨n',hlt,_,_,_,h6,Facts.of r2 u3 u4 rfl rfl rfl rfl⟩
  ·refine fin false w4 _ fun a5 v25 g5 => ?_
   show c4.wpIn _ _ _ _ _ _
   rw [c4_eq]
   refine wpIn_cond_true v25 (wpIn_ret ?_)
   exact ⟨g5.defers,.tuple #[],results_none (by kernel_rfl) _ _ _,⟨_,rfl⟩,hS⟩
end Go.Proofs.YtchonnaoojpdoaaGreat.Pieces
