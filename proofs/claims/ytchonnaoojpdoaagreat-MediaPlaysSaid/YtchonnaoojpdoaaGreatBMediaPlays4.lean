import Derived.Test.YtchonnaoojpdoaaGreatBMediaPlays3
import Derived.Test.YtchonnaoojpdoaaGreatFpatinalaw08
import Derived.Test.YtchonnaoojpdoaaGreatFLMediaPlays
set_option linter.unusedVariables false
set_option linter.unusedSectionVars false
set_option linter.unusedSimpArgs false
namespace Go.Proofs.YtchonnaoojpdoaaGreat
open Go.Mx
theorem dataN_ok (k:Nat) (hk:1000 < k) (m:Mem) (n:Nat) (hn:n < 1000) (v:Int):∃ w,patinalaw08_data k (n:Int) v m = some (⟨some ⟨m.length,0,none⟩,n,n⟩,m ++ [.live (bys n w)]):=by
 let w:Nat → GF:=fun i => GF.of ((v + IntKind.wrap .u8 (IntKind.wrap .i64 (7 * (i:Int)))) % 256).toNat
 refine ⟨w,?_⟩
 have key:Ok (patinalaw08_data k (n:Int) v m) fun r => r = (⟨some ⟨m.length,0,none⟩,n,n⟩,m ++ [.live (bys n w)]):=by
  unfold patinalaw08_data
  have hb:(tt 5).bytes = 1:=rfl
  have hm:((most:Nat):Int) = 140737488355328:=rfl
  have c0:(decide ((0:Int) ≤ (n:Int)) && decide ((n:Int) ≤ (n:Int)) && decide ((n:Int) * ((1:Nat):Int) ≤ 140737488355328) && decide ((n:Int) ≤ 140737488355328)) = true:=by
   simp only [Bool.and_eq_true,decide_eq_true_eq];omega
  rw [hb,hm,c0,cond_true,Int.toNat_natCast]
  rw [bys_zero]
  refine patinalaw08_data_l0_rule k _ (fun r x0 x1 x5a x5n x5c x6 m' => (n:Int) = x0 ∧ v = x1 ∧ (some ⟨m.length,0,none⟩:Option Addr) = x5a ∧ n = x5n ∧ n = x5c ∧ ∃ i:Nat,x6 = i ∧ i + r = n ∧ m' = m ++ [.live (bys n fun j => if j < i then w j else 0)]) ?_ k n _ _ _ _ _ _ _ (by omega)
   ⟨rfl,rfl,rfl,rfl,rfl,0,rfl,by omega,by rw [bys_congr (u:=fun j => if j < 0 then w j else 0) (w:=fun _ => 0) fun i _ => if_neg (by omega)]⟩
  rintro r nx _ _ _ _ _ _ _ ⟨rfl,rfl,rfl,rfl,rfl,i,rfl,hr,rfl⟩ hnx
  unfold patinalaw08_data_l0_b
  by_cases hi:(i:Int) < n
  ·have i1:inRange (i:Int) n = true:=inRange_yes (by omega) hi
   have ti:Int.toNat (i:Int) = i:=Int.toNat_natCast i
   have e1:IntKind.wrap .u8 (v + IntKind.wrap .u8 (IntKind.wrap .i64 (7 * (i:Int)))) = ((w i).v:Int):=wrapB _
   have s1:=bys_st (sp:=none) (get_last (m:=m) (o:=.live (bys n fun j => if j < i then w j else 0)) rfl) (i:=i) (by omega) (w i)
   rw [wr_last rfl] at s1
   simp only [decide_eq_true hi,cond_true,i1,Option.bind_some,ti,Nat.mul_one,plus,Nat.zero_add,e1,s1]
   refine hnx (r - 1) _ _ _ _ _ _ _ (by omega) ⟨rfl,rfl,rfl,rfl,rfl,i + 1,by rw [wrap_i64 (by omega) (by omega)];push_cast;rfl,by omega,?_⟩
   rw [bys_congr (n:=n) (u:=put (fun j => if j < i then w j else 0) i (w i)) (w:=fun j => if j < i + 1 then w j else 0) fun j hj => ?_]
   unfold put
   split
   ·rename_i h;subst h;rw [if_pos (by omega)]
   ·show (if j < i then w j else 0) = _
    by_cases h2:j < i
    ·rw [if_pos h2,if_pos (by omega)]
    ·rw [if_neg h2,if_neg (by omega)]
  ·obtain rfl:i = n:=by omega
   rw [decide_eq_false hi,cond_false]
   refine .some ?_
   rw [bys_congr (u:=fun j => if j < i then w j else 0) (w:=w) fun j hj => if_pos hj]
 obtain ⟨r,h2,rfl⟩:=key
 exact h2
def opC (kk a bb:Int) (t:TagT) (v:Int):List Value:=[.int .i64 kk,.int .i64 a,.int .i64 bb,.int .i64 t.place,.int .i64 t.of_,.int .i64 t.seq,.int .i64 t.copy,.bool t.lost,.int .u8 v]
def Dn (m0:Mem) (b c mm f R r N:Nat) (n:Int) (x:Bool × Mem):Prop:=x.1 = true ∧ ∃ lab g σ n',BI m0 x.2 b c mm f R r lab g σ σ n' n' ∧ Wf (N + 5) σ ∧ (n' = n ∨ n' = n + 1)
section
variable (k:Nat) (hk:1005 < k) {m0 M:Mem} {b c mm f R r N:Nat} {lab:Nat → Option Lab} {g:RG} {σ:ChipS} {n:Int} (h:BI m0 M b c mm f R r lab g σ σ n n) (hw:Wf N σ) (hN:N < 200000000000000) (hn:0 ≤ n ∧ n < 4611686018427387904)
 {kk a bb v:Int} {t:TagT} (ha:-9223372036854775808 ≤ a ∧ a < 9223372036854775808) (hb:-9223372036854775808 ≤ bb ∧ bb < 9223372036854775808)
include hk h hw hN hn ha hb
theorem mstep1 (hp:∀ M,patinalaw08_pick k kk 10 M = some (1,M)):Ok (patinalaw08_Both_step k (some ⟨b,0,none⟩) (opC kk a bb t v) M) (Dn m0 b c mm f R r N n):=by
 unfold patinalaw08_Both_step
 have L9:Nat.beq (opC kk a bb t v).length 9 = true:=rfl
 have ho:=get_last (m:=M) (o:=.live (opC kk a bb t v)) rfl
 have h1:=h.grow (Gr.app M [.live (opC kk a bb t v)])
 have hl:=h.loc (Nat.le_refl M.length)
 have z0:((1:Int) == 0) = false:=rfl
 have z1:((1:Int) == 1) = true:=rfl
 generalize M ++ [MObj.live (opC kk a bb t v)] = M1 at *
 have p0:ldInt .i64 M1 ⟨M.length,0,none⟩ = some kk:=ldInt_of ho rfl
 have p1:ldInt .i64 M1 ⟨M.length,1,none⟩ = some a:=ldInt_of ho rfl
 simp only [L9,cond_true,plus,Nat.zero_add,p0,hp,z0,cond_false,z1,Option.bind_some,h1.ld1,p1]
 refine .bind (readBoth k (by omega) h1.mi hw (by omega) hn a) ?_
 rintro ⟨pc,ev,M2⟩ ⟨q,RR,L,e,σ',n',W,rfl,rfl,hc,hq,hR,hD,cm,c2,m2,w2,n2,hW,hy⟩
 simp only at hR cm c2 m2 ⊢
 have h2:=h1.main cm c2 m2
 have ho2:=hl.main_get h1 cm ho
 have hz:([.bool false,.int .i64 0,.int .i64 0,.int .i64 0,.int .i64 0,.bool false,.bool false,.slice none 0 0,.int .i64 0]:List Value) = pgC (.no 0) none:=rfl
 have L9p:Nat.beq (pgC q RR).length 9 = true:=rfl
 have st3:stCells (M2 ++ [.live (pgC (.no 0) none)]) ⟨M2.length,0,none⟩ (pgC q RR) = some (M2 ++ [.live (pgC q RR)]):=by rw [stCells_wr (get_last rfl) (Nat.le_refl _),wr_last rfl];rfl
 have g3:=Gr.app M2 [.live (pgC q RR)]
 have h3:=h2.grow g3
 have ho3:=g3.get ho2
 have x3:(M2 ++ [MObj.live (pgC q RR)])[M2.length]? = some (.live (pgC q RR)):=get_last rfl
 have lx3:=h2.loc (Nat.le_refl M2.length)
 have hR3:=hR.grow g3
 simp only [hz,L9p,cond_true,st3,Option.bind_some]
 generalize M2 ++ [MObj.live (pgC q RR)] = M3 at *
 have p2:ldInt .i64 M3 ⟨M.length,1,none⟩ = some a:=ldInt_of ho3 rfl
 simp only [h3.ld2,Option.bind_some,p2]
 refine .bind (refMRead_ok k (by omega) h3.ri hw (by omega) hn a (W:=W) hW) ?_
 rintro ⟨cs,ev,M4⟩ hyy
 obtain ⟨⟨s,rfl,hs,hA⟩,rfl,h4,hl4⟩:=hy _ _ _ _ _ _ hyy
 simp only at hs hA h4 hl4 ⊢
 have h5:=h3.ref hl4 h4
 have x4:=lx3.ref_get hl4 x3
 have hR4:=hR3.keep (m':=M4) fun D hD' => by
  have l1:=h1.loc (hD D hD')
  obtain ⟨_,b1,b2⟩:=l1
  exact hl4.ch.get D (hR3.lt D hD') (by rintro (h | h);exact h b1;exact b2 h)
 have L9r:Nat.beq (pgR q s).length 9 = true:=rfl
 have st5:stCells (M4 ++ [.live (pgC (.no 0) none)]) ⟨M4.length,0,none⟩ (pgR q s) = some (M4 ++ [.live (pgR q s)]):=by rw [stCells_wr (get_last rfl) (Nat.le_refl _),wr_last rfl];rfl
 have g5:=Gr.app M4 [.live (pgR q s)]
 have h6:=h5.grow g5
 have x5:=g5.get x4
 have y5:(M4 ++ [MObj.live (pgR q s)])[M4.length]? = some (.live (pgR q s)):=get_last rfl
 have hR5:=hR4.grow g5
 have hA5:=hA.keep (m':=M4 ++ [.live (pgR q s)]) fun p o _ ho => g5.get ho
 simp only [hz,L9r,cond_true,st5,Option.bind_some]
 generalize M4 ++ [MObj.live (pgR q s)] = M5 at *
 have c5:ldCells M5 ⟨M2.length,0,none⟩ 9 = some (pgC q RR):=by rw [ldCells_of (off:=0) (n:=9) x5 (Nat.le_refl _)];rfl
 have c5':ldCells M5 ⟨M4.length,0,none⟩ 9 = some (pgR q s):=by rw [ldCells_of (off:=0) (n:=9) y5 (Nat.le_refl _)];rfl
 obtain ⟨M6,s1,s2⟩:=same8_is k (by omega) hq rfl hR5 ⟨s,rfl,hs,hA5⟩
 have cd:=code_is k ev M6 hc
 simp only [c5,c5',Option.bind_some,s1,cond_true,cd,beq_self_eq_true]
 exact .some ⟨rfl,lab,g,σ',n',h6.grow s2,w2.mono (by omega),n2⟩
theorem mstep0 (hv:0 ≤ v ∧ v < 256) (hp:∀ M,patinalaw08_pick k kk 10 M = some (0,M)):Ok (patinalaw08_Both_step k (some ⟨b,0,none⟩) (opC kk a bb t v) M) (Dn m0 b c mm f R r N n):=by
 unfold patinalaw08_Both_step
 have L9:Nat.beq (opC kk a bb t v).length 9 = true:=rfl
 have ho:=get_last (m:=M) (o:=.live (opC kk a bb t v)) rfl
 have h1:=h.grow (Gr.app M [.live (opC kk a bb t v)])
 have hl:=h.loc (Nat.le_refl M.length)
 have z0:((0:Int) == 0) = true:=rfl
 generalize M ++ [MObj.live (opC kk a bb t v)] = M1 at *
 have p0:ldInt .i64 M1 ⟨M.length,0,none⟩ = some kk:=ldInt_of ho rfl
 have p1:ldInt .i64 M1 ⟨M.length,1,none⟩ = some a:=ldInt_of ho rfl
 have pb:ldInt .i64 M1 ⟨M.length,2,none⟩ = some bb:=ldInt_of ho rfl
 have pt:∀ M',M'[M.length]? = some (.live (opC kk a bb t v)) → ldCells M' ⟨M.length,3,none⟩ 5 = some (tagC t):=fun M' hM => by rw [ldCells_of (off:=3) (n:=5) hM (by simp [opC])];rfl
 have pv:ldInt .u8 M1 ⟨M.length,8,none⟩ = some v:=ldInt_of ho rfl
 simp only [L9,cond_true,plus,Nat.zero_add,p0,hp,z0,Option.bind_some,pb]
 have body:∀ nn:Nat,nn < 1000 → Ok (patinalaw08_Both_step_j1 k (some ⟨b,0,none⟩) M (nn:Int) M1) (Dn m0 b c mm f R r N n):=by
  intro nn hnn
  unfold patinalaw08_Both_step_j1
  obtain ⟨w,dw⟩:=dataN_ok k (by omega) M1 nn hnn v
  have lD:=h1.loc (Nat.le_refl M1.length)
  have g2:=Gr.app M1 [.live (bys nn w)]
  have xD:(M1 ++ [MObj.live (bys nn w)])[M1.length]? = some (.live (bys nn w)):=get_last rfl
  have h2:=h1.grow g2
  have ho2:=g2.get ho
  simp only [plus,Nat.zero_add,pv,Option.bind_some,dw]
  generalize M1 ++ [MObj.live (bys nn w)] = M2 at *
  refine .bind (lend_ok k (by omega) (c:=nn) (Src.of (sp:=none) xD) (by omega)) ?_
  rintro ⟨_,M3⟩ ⟨x,d,e,u,rfl,g3,hx,hd,he,hL,hu⟩
  simp only at g3 hL ⊢
  have h3:=h2.grow g3
  have ho3:=g3.get ho2
  have xD3:=g3.get xD
  have lx:=h2.loc hx
  have ld:=h2.loc hd
  have le:=h2.loc he
  have p3:ldInt .i64 M3 ⟨M.length,1,none⟩ = some a:=ldInt_of ho3 rfl
  simp only [h3.ld1,Option.bind_some,p3,pt M3 ho3,bytes_is k hL]
  refine .bind (mediaProgram_ok k (by omega) h3.mi hw (by omega) hn (ca:=nn + 5) (w:=w) (fun M' cm' => (Src.take (sp:=some 1) (ld.main_get h3 cm' hL.d_) (l:=nn) (by omega)).congr fun i hi => (hu i hi).symm) a) ?_
  rintro ⟨ev,M4⟩ hP
  obtain ⟨e',σ',n',W,rfl,hc,cm,c4,m4,w4,n4,hW,hy⟩:=progBoth hw hP
  simp only at cm c4 m4 ⊢
  have h4:=h3.main cm c4 m4
  have ho4:=hl.main_get h3 cm ho3
  have hL4:Lent M4 x d e nn u:=⟨hL.xd,hL.xe,hL.de,lx.main_get h3 cm hL.x_,ld.main_get h3 cm hL.d_,le.main_get h3 cm hL.e_⟩
  have xD4:=lD.main_get h3 cm xD3
  simp only [decide_true,cond_true,beq_self_eq_true,veqs_tag,kept_is k hL4 (by omega) (by omega),Option.bind_some]
  refine .bind (turn_ok k hL4 (by omega) (by omega)) ?_
  rintro M5 ⟨_,t1,t2,_⟩
  have bM:M2.length ≤ b → False:=fun hh => by have:=get_lt h2.bc;omega
  have bR:M2.length ≤ R → False:=fun hh => by have:=get_lt h2.ri.med;omega
  have h5:=h4.any (M':=M5) (Nat.le_of_eq t2.symm) fun p hp' => t1 p (fun hq => by
   subst hq
   rcases hp' with h' | h' | rfl | rfl
   ·have:=ld.1;omega
   ·exact h' ld.2.1
   ·exact bR hd
   ·exact bM hd) (fun hq => by
   subst hq
   rcases hp' with h' | h' | rfl | rfl
   ·have:=le.1;omega
   ·exact h' le.2.1
   ·exact bR he
   ·exact bM he)
  have lt2:=get_lt ho2
  have ltD:=get_lt xD
  have ho5:M5[M.length]? = some (.live (opC kk a bb t v)):=by rw [t1 _ (by omega) (by omega)];exact ho4
  have xD5:M5[M1.length]? = some (.live (bys nn w)):=by rw [t1 _ (by omega) (by omega)];exact xD4
  have p5:ldInt .i64 M5 ⟨M.length,1,none⟩ = some a:=ldInt_of ho5 rfl
  have cd:=code_is k e' M5 hc
  simp only [cond_true,cd,Option.bind_some,h5.ld2,p5,pt M5 ho5]
  refine .bind (refMProgram_ok k (by omega) h5.ri hw (by omega) hn xD5 lD.2.1 lD.2.2 (Nat.le_refl _) a (W:=W) hW) ?_
  rintro ⟨e2,M6⟩ hR
  obtain ⟨lab',g',a1,a2,rfl⟩:=hy _ _ _ _ _ hR
  simp only [decide_true,cond_true,beq_self_eq_true,veqs_tag]
  exact .some ⟨rfl,lab',g',σ',n',h5.ref a2 a1,w4,n4⟩
 by_cases hb0:bb > 0
 ·rw [decide_eq_true hb0,cond_true]
  by_cases hb1:bb < 1000
  ·rw [decide_eq_true hb1,cond_true]
   have:=body bb.toNat (by omega)
   rw [Int.toNat_of_nonneg (by omega)] at this
   exact this
  ·rw [decide_eq_false hb1,cond_false]
   exact body 174 (by omega)
 ·rw [decide_eq_false hb0,cond_false]
  exact body 174 (by omega)
end
end Go.Proofs.YtchonnaoojpdoaaGreat
set_option linter.unusedVariables false
set_option linter.unusedSectionVars false
set_option linter.unusedSimpArgs false
namespace Go.Proofs.YtchonnaoojpdoaaGreat
open Go.Mx
section
variable {m0 M M':Mem} {b c mm f R r:Nat} {lab lab':Nat → Option Lab} {g g':RG} {σ σ' ρ ρ':ChipS} {n n' ν ν':Int}
theorem BI.rx (h:BI m0 M b c mm f R r lab g σ ρ n ν) (hr:RefX M' r lab' g' ρ') (hl:Lx M M' lab lab'):BI m0 M' b c mm f R r lab' g' σ ρ' n ν:=h.ref hl.lm (h.ri.lx hr hl)
theorem BI.rc (h:BI m0 M b c mm f R r lab g σ ρ n ν) (hr:RefX M' r lab g' ρ') (hl:Ch (fun p => lab p ≠ none) M M'):BI m0 M' b c mm f R r lab g' σ ρ' n ν:=h.rx hr (.of hl)
end
section
variable (k:Nat) (hk:1005 < k) {m0 M:Mem} {b c mm f R r N:Nat} {lab:Nat → Option Lab} {g:RG} {σ:ChipS} {n:Int} (h:BI m0 M b c mm f R r lab g σ σ n n) (hw:Wf N σ) (hN:N < 200000000000000) (hn:0 ≤ n ∧ n < 4611686018427387904)
 {kk a bb v:Int} {t:TagT} (ha:-9223372036854775808 ≤ a ∧ a < 9223372036854775808) (hb:-9223372036854775808 ≤ bb ∧ bb < 9223372036854775808)
include hk h hw hN hn ha hb
theorem mstep2 (hp:∀ M,patinalaw08_pick k kk 10 M = some (2,M)):Ok (patinalaw08_Both_step k (some ⟨b,0,none⟩) (opC kk a bb t v) M) (Dn m0 b c mm f R r N n):=by
 unfold patinalaw08_Both_step
 have L9:Nat.beq (opC kk a bb t v).length 9 = true:=rfl
 have ho:=get_last (m:=M) (o:=.live (opC kk a bb t v)) rfl
 have h1:=h.grow (Gr.app M [.live (opC kk a bb t v)])
 have hl:=h.loc (Nat.le_refl M.length)
 have z0:((2:Int) == 0) = false:=rfl
 have z1:((2:Int) == 1) = false:=rfl
 have z2:((2:Int) == 2) = true:=rfl
 generalize M ++ [MObj.live (opC kk a bb t v)] = M1 at *
 have p0:ldInt .i64 M1 ⟨M.length,0,none⟩ = some kk:=ldInt_of ho rfl
 have p1:ldInt .i64 M1 ⟨M.length,1,none⟩ = some a:=ldInt_of ho rfl
 have lc:ldPtr M1 ⟨mm,0,none⟩ = some (some ⟨c,0,none⟩):=ldPtr_of h1.med rfl
 have hst:=hw.steps
 obtain ⟨gg,e1⟩:=nand_Erase_ok k h1.chip (by omega) ⟨hst.1,by omega⟩ hw.bud a
 obtain ⟨h2',cm'⟩:=h1.wrc (σ.erase a).2
 have gr:=Gr.app (wr M1 c (chipC (σ.erase a).2)) gg
 have h2:=h2'.grow gr
 have cm:Cm c mm M1 (wr M1 c (chipC (σ.erase a).2) ++ gg):=cm'.trans gr.cm
 have ho2:=hl.main_get h1 cm ho
 generalize wr M1 c (chipC (σ.erase a).2) ++ gg = M2 at *
 have p2:ldInt .i64 M2 ⟨M.length,1,none⟩ = some a:=ldInt_of ho2 rfl
 have cd:=code_is k (σ.erase a).1 M2 (erase_code σ a)
 simp only [L9,cond_true,plus,Nat.zero_add,p0,hp,z0,z1,z2,cond_false,Option.bind_some,h1.ld1,p1,media_Media_Erase,lc,e1,cd,h2.ld2,h2.ldr,p2]
 refine .bind (refErase_ok h2.ri.ref k (by omega) ⟨hst.1,by omega⟩ hw.bud a) ?_
 rintro ⟨_,M3⟩ ⟨rfl,lab',g',f2,f3⟩
 simp only [decide_true,cond_true,beq_self_eq_true] at f2 f3 ⊢
 exact .some ⟨rfl,lab',g',_,n,h2.rx f2 f3,(hw.erase a).mono (by omega),.inl rfl⟩
theorem mstep9 (hp:∀ M,patinalaw08_pick k kk 10 M = some (9,M)):Ok (patinalaw08_Both_step k (some ⟨b,0,none⟩) (opC kk a bb t v) M) (Dn m0 b c mm f R r N n):=by
 unfold patinalaw08_Both_step
 have L9:Nat.beq (opC kk a bb t v).length 9 = true:=rfl
 have ho:=get_last (m:=M) (o:=.live (opC kk a bb t v)) rfl
 have h1:=h.grow (Gr.app M [.live (opC kk a bb t v)])
 have z0:((9:Int) == 0) = false:=rfl
 have z1:((9:Int) == 1) = false:=rfl
 have z2:((9:Int) == 2) = false:=rfl
 have z9:((9:Int) == 9) = true:=rfl
 generalize M ++ [MObj.live (opC kk a bb t v)] = M1 at *
 have p0:ldInt .i64 M1 ⟨M.length,0,none⟩ = some kk:=ldInt_of ho rfl
 have lr:ldInt .i64 M1 ⟨mm,2,none⟩ = some n:=ldInt_of h1.med rfl
 simp only [L9,cond_true,plus,Nat.zero_add,Nat.add_zero,p0,hp,z0,z1,z2,z9,cond_false,Option.bind_some,h1.ld1,media_Media_Reads,sync_atomic_Int64_Load,sync_atomic_LoadInt64,atLoad,lr,h1.ld2,h1.ldn,decide_true,beq_self_eq_true]
 exact .some ⟨rfl,lab,g,σ,n,h1,hw.mono (by omega),.inl rfl⟩
theorem mharm {z:Int} (h3:3 ≤ z) (h9:z < 9) (hp:∀ M,patinalaw08_pick k kk 10 M = some (z,M)) (H:∀ M,BI m0 M b c mm f R r lab g σ σ n n → Ok (patinalaw08_Both_harm k (some ⟨b,0,none⟩) (opC kk a bb t v) M) (Dn m0 b c mm f R r N n)) :
 Ok (patinalaw08_Both_step k (some ⟨b,0,none⟩) (opC kk a bb t v) M) (Dn m0 b c mm f R r N n):=by
 unfold patinalaw08_Both_step
 have L9:Nat.beq (opC kk a bb t v).length 9 = true:=rfl
 have ho:=get_last (m:=M) (o:=.live (opC kk a bb t v)) rfl
 have h1:=h.grow (Gr.app M [.live (opC kk a bb t v)])
 have z0:(z == 0) = false:=beq_eq_false_iff_ne.2 (by omega)
 have z1:(z == 1) = false:=beq_eq_false_iff_ne.2 (by omega)
 have z2:(z == 2) = false:=beq_eq_false_iff_ne.2 (by omega)
 have z9:(z == 9) = false:=beq_eq_false_iff_ne.2 (by omega)
 generalize M ++ [MObj.live (opC kk a bb t v)] = M1 at *
 have p0:ldInt .i64 M1 ⟨M.length,0,none⟩ = some kk:=ldInt_of ho rfl
 have pc:ldCells M1 ⟨M.length,0,none⟩ 9 = some (opC kk a bb t v):=by rw [ldCells_of (off:=0) (n:=9) ho (Nat.le_refl _)];rfl
 simp only [L9,cond_true,plus,Nat.zero_add,p0,hp,z0,z1,z2,z9,cond_false,Option.bind_some,pc]
 exact .bind (H M1 h1) fun r hr => .some hr
theorem mharm3 (hp:∀ M,patinalaw08_pick k kk 10 M = some (3,M)):Ok (patinalaw08_Both_harm k (some ⟨b,0,none⟩) (opC kk a bb t v) M) (Dn m0 b c mm f R r N n):=by
 unfold patinalaw08_Both_harm
 have L9:Nat.beq (opC kk a bb t v).length 9 = true:=rfl
 have ho:=get_last (m:=M) (o:=.live (opC kk a bb t v)) rfl
 have h1:=h.grow (Gr.app M [.live (opC kk a bb t v)])
 have hl:=h.loc (Nat.le_refl M.length)
 have z3:((3:Int) == 3) = true:=rfl
 generalize M ++ [MObj.live (opC kk a bb t v)] = M1 at *
 have p0:ldInt .i64 M1 ⟨M.length,0,none⟩ = some kk:=ldInt_of ho rfl
 have p1:ldInt .i64 M1 ⟨M.length,1,none⟩ = some a:=ldInt_of ho rfl
 have pb:ldInt .i64 M1 ⟨M.length,2,none⟩ = some bb:=ldInt_of ho rfl
 have e1:=nand_Flip_all k (by omega) h1.chip a bb
 have w2:Wf (N + 5) (if 0 ≤ a ∧ a < 96 ∧ 0 ≤ bb ∧ bb < 2048 then σ.flip a bb else σ):=by
  split
  ·rename_i hh;exact (hw.flip a bb hh.2.2.1).mono (by omega)
  ·exact hw.mono (by omega)
 have hc:0 ≤ (if 0 ≤ a ∧ a < 96 ∧ 0 ≤ bb ∧ bb < 2048 then (0:Int) else 1) ∧ (if 0 ≤ a ∧ a < 96 ∧ 0 ≤ bb ∧ bb < 2048 then (0:Int) else 1) < 20:=by split <;> omega
 obtain ⟨h2,cm⟩:=h1.wrc (if 0 ≤ a ∧ a < 96 ∧ 0 ≤ bb ∧ bb < 2048 then σ.flip a bb else σ)
 have ho2:=hl.main_get h1 cm ho
 generalize wr M1 c (chipC (if 0 ≤ a ∧ a < 96 ∧ 0 ≤ bb ∧ bb < 2048 then σ.flip a bb else σ)) = M2 at *
 have p2:ldInt .i64 M2 ⟨M.length,1,none⟩ = some a:=ldInt_of ho2 rfl
 have p2b:ldInt .i64 M2 ⟨M.length,2,none⟩ = some bb:=ldInt_of ho2 rfl
 obtain ⟨M3,g',f1,f2,f3⟩:=refFlip_is h2.ri.ref k (by omega) a bb
 have cd:=code_is k _ M2 hc
 simp only [L9,cond_true,plus,Nat.zero_add,p0,hp,z3,Option.bind_some,h1.ld0,p1,pb,e1,cd,h2.ld2,h2.ldr,p2,p2b,f1,decide_true,beq_self_eq_true]
 exact .some ⟨rfl,lab,g',_,n,h2.rc f2 f3,w2,.inl rfl⟩
theorem mharm4 (hp:∀ M,patinalaw08_pick k kk 10 M = some (4,M)):Ok (patinalaw08_Both_harm k (some ⟨b,0,none⟩) (opC kk a bb t v) M) (Dn m0 b c mm f R r N n):=by
 unfold patinalaw08_Both_harm
 have L9:Nat.beq (opC kk a bb t v).length 9 = true:=rfl
 have ho:=get_last (m:=M) (o:=.live (opC kk a bb t v)) rfl
 have h1:=h.grow (Gr.app M [.live (opC kk a bb t v)])
 have hl:=h.loc (Nat.le_refl M.length)
 have z3:((4:Int) == 3) = false:=rfl
 have z4:((4:Int) == 4) = true:=rfl
 generalize M ++ [MObj.live (opC kk a bb t v)] = M1 at *
 have p0:ldInt .i64 M1 ⟨M.length,0,none⟩ = some kk:=ldInt_of ho rfl
 have p1:ldInt .i64 M1 ⟨M.length,1,none⟩ = some a:=ldInt_of ho rfl
 have pb:ldInt .i64 M1 ⟨M.length,2,none⟩ = some bb:=ldInt_of ho rfl
 have hst:=hw.steps
 let σ2:=if 0 ≤ a ∧ a < 12 ∧ 0 ≤ bb then σ.updB a { σ.b a with before:=(if bb ≤ 9223372036854775806 then bb else 9223372036854775806) + 1 } else σ
 obtain ⟨M2,e1,h2,cm⟩:∃ M2,nand_Chip_FailProgram k (some ⟨c,0,none⟩) a bb M1 = some (errC (if 0 ≤ a ∧ a < 12 ∧ 0 ≤ bb then 0 else 1),M2) ∧ BI m0 M2 b c mm f R r lab g σ2 σ n n ∧ Cm c mm M1 M2:=by
  have e:=nand_FailProgram_is k h1.chip a bb hb.2
  by_cases hh:0 ≤ a ∧ a < 12 ∧ 0 ≤ bb
  ·rw [if_pos hh] at e
   obtain ⟨h2,cm⟩:=h1.wrc (σ.updB a { σ.b a with before:=(if bb ≤ 9223372036854775806 then bb else 9223372036854775806) + 1 })
   exact ⟨_,by rw [e,if_pos hh];rfl,by show BI _ _ _ _ _ _ _ _ _ _ (if _ then _ else _) _ _ _;rw [if_pos hh];exact h2,cm⟩
  ·rw [if_neg hh] at e
   exact ⟨M1,by rw [e,if_neg hh],by show BI _ _ _ _ _ _ _ _ _ _ (if _ then _ else _) _ _ _;rw [if_neg hh];exact h1,(Gr.refl _).cm⟩
 have w2:Wf (N + 5) σ2:=by
  show Wf _ (if _ then _ else _)
  split
  ·rename_i hh;exact (hw.failP a hh.2.2).mono (by omega)
  ·exact hw.mono (by omega)
 have hc:0 ≤ (if 0 ≤ a ∧ a < 12 ∧ 0 ≤ bb then (0:Int) else 1) ∧ (if 0 ≤ a ∧ a < 12 ∧ 0 ≤ bb then (0:Int) else 1) < 20:=by split <;> omega
 have ho2:=hl.main_get h1 cm ho
 have p2:ldInt .i64 M2 ⟨M.length,1,none⟩ = some a:=ldInt_of ho2 rfl
 have p2b:ldInt .i64 M2 ⟨M.length,2,none⟩ = some bb:=ldInt_of ho2 rfl
 obtain ⟨M3,g',f1,f2,f3⟩:=refFailProgram_is h2.ri.ref k a bb hb.2 hst.1
 have cd:=code_is k _ M2 hc
 simp only [L9,cond_true,plus,Nat.zero_add,p0,hp,z3,z4,cond_false,Option.bind_some,h1.ld0,p1,pb,e1,cd,h2.ld2,h2.ldr,p2,p2b,f1,decide_true,beq_self_eq_true]
 exact .some ⟨rfl,lab,g',σ2,n,h2.rc f2 f3,w2,.inl rfl⟩
theorem mharm5 (hp:∀ M,patinalaw08_pick k kk 10 M = some (5,M)):Ok (patinalaw08_Both_harm k (some ⟨b,0,none⟩) (opC kk a bb t v) M) (Dn m0 b c mm f R r N n):=by
 unfold patinalaw08_Both_harm
 have L9:Nat.beq (opC kk a bb t v).length 9 = true:=rfl
 have ho:=get_last (m:=M) (o:=.live (opC kk a bb t v)) rfl
 have h1:=h.grow (Gr.app M [.live (opC kk a bb t v)])
 have hl:=h.loc (Nat.le_refl M.length)
 have z3:((5:Int) == 3) = false:=rfl
 have z4:((5:Int) == 4) = false:=rfl
 have z5:((5:Int) == 5) = true:=rfl
 generalize M ++ [MObj.live (opC kk a bb t v)] = M1 at *
 have p0:ldInt .i64 M1 ⟨M.length,0,none⟩ = some kk:=ldInt_of ho rfl
 have p1:ldInt .i64 M1 ⟨M.length,1,none⟩ = some a:=ldInt_of ho rfl
 let σ2:=if 0 ≤ a ∧ a < 12 then σ.updB a { σ.b a with atErase:=true } else σ
 obtain ⟨M2,e1,h2,cm⟩:∃ M2,nand_Chip_FailErase k (some ⟨c,0,none⟩) a M1 = some (errC (if 0 ≤ a ∧ a < 12 then 0 else 1),M2) ∧ BI m0 M2 b c mm f R r lab g σ2 σ n n ∧ Cm c mm M1 M2:=by
  have e:=nand_FailErase_is k h1.chip a
  by_cases hh:0 ≤ a ∧ a < 12
  ·rw [if_pos hh] at e
   obtain ⟨h2,cm⟩:=h1.wrc (σ.updB a { σ.b a with atErase:=true })
   exact ⟨_,by rw [e,if_pos hh];rfl,by show BI _ _ _ _ _ _ _ _ _ _ (if _ then _ else _) _ _ _;rw [if_pos hh];exact h2,cm⟩
  ·rw [if_neg hh] at e
   exact ⟨M1,by rw [e,if_neg hh],by show BI _ _ _ _ _ _ _ _ _ _ (if _ then _ else _) _ _ _;rw [if_neg hh];exact h1,(Gr.refl _).cm⟩
 have w2:Wf (N + 5) σ2:=by
  show Wf _ (if _ then _ else _)
  split
  ·exact (hw.failE a).mono (by omega)
  ·exact hw.mono (by omega)
 have hc:0 ≤ (if 0 ≤ a ∧ a < 12 then (0:Int) else 1) ∧ (if 0 ≤ a ∧ a < 12 then (0:Int) else 1) < 20:=by split <;> omega
 have ho2:=hl.main_get h1 cm ho
 have p2:ldInt .i64 M2 ⟨M.length,1,none⟩ = some a:=ldInt_of ho2 rfl
 obtain ⟨M3,g',f1,f2,f3⟩:=refFailErase_is h2.ri.ref k a
 have cd:=code_is k _ M2 hc
 simp only [L9,cond_true,plus,Nat.zero_add,p0,hp,z3,z4,z5,cond_false,Option.bind_some,h1.ld0,p1,e1,cd,h2.ld2,h2.ldr,p2,f1,decide_true,beq_self_eq_true]
 exact .some ⟨rfl,lab,g',σ2,n,h2.rc f2 f3,w2,.inl rfl⟩
theorem mharm6 (hp:∀ M,patinalaw08_pick k kk 10 M = some (6,M)):Ok (patinalaw08_Both_harm k (some ⟨b,0,none⟩) (opC kk a bb t v) M) (Dn m0 b c mm f R r N n):=by
 unfold patinalaw08_Both_harm
 have L9:Nat.beq (opC kk a bb t v).length 9 = true:=rfl
 have ho:=get_last (m:=M) (o:=.live (opC kk a bb t v)) rfl
 have h1:=h.grow (Gr.app M [.live (opC kk a bb t v)])
 have hl:=h.loc (Nat.le_refl M.length)
 have z3:((6:Int) == 3) = false:=rfl
 have z4:((6:Int) == 4) = false:=rfl
 have z5:((6:Int) == 5) = false:=rfl
 have z6:((6:Int) == 6) = true:=rfl
 generalize M ++ [MObj.live (opC kk a bb t v)] = M1 at *
 have p0:ldInt .i64 M1 ⟨M.length,0,none⟩ = some kk:=ldInt_of ho rfl
 have p1:ldInt .i64 M1 ⟨M.length,1,none⟩ = some a:=ldInt_of ho rfl
 let σ2:=if a < 0 then σ else if σ.off = true then σ else { σ with cut:=true,budget:=a }
 obtain ⟨M2,e1,h2,cm⟩:∃ M2,nand_Chip_Cut k (some ⟨c,0,none⟩) a M1 = some (errC (if a < 0 then 1 else 0),M2) ∧ BI m0 M2 b c mm f R r lab g σ2 σ n n ∧ Cm c mm M1 M2:=by
  have e:=nand_Cut_is k h1.chip a
  by_cases hh:a < 0
  ·rw [if_pos hh] at e
   exact ⟨M1,by rw [e,if_pos hh],by show BI _ _ _ _ _ _ _ _ _ _ (if _ then _ else _) _ _ _;rw [if_pos hh];exact h1,(Gr.refl _).cm⟩
  ·rw [if_neg hh] at e
   obtain ⟨h2,cm⟩:=h1.wrc (if σ.off = true then σ else { σ with cut:=true,budget:=a })
   exact ⟨_,by rw [e,if_neg hh];rfl,by show BI _ _ _ _ _ _ _ _ _ _ (if _ then _ else _) _ _ _;rw [if_neg hh];exact h2,cm⟩
 have w2:Wf (N + 5) σ2:=by
  show Wf _ (if _ then _ else _)
  split
  ·exact hw.mono (by omega)
  ·rename_i hh;exact (hw.cut ⟨by omega,ha.2⟩).mono (by omega)
 have hc:0 ≤ (if a < 0 then (1:Int) else 0) ∧ (if a < 0 then (1:Int) else 0) < 20:=by split <;> omega
 have ho2:=hl.main_get h1 cm ho
 have p2:ldInt .i64 M2 ⟨M.length,1,none⟩ = some a:=ldInt_of ho2 rfl
 obtain ⟨M3,f1,f2,f3⟩:=refCut_is h2.ri.ref k a
 have cd:=code_is k _ M2 hc
 simp only [L9,cond_true,plus,Nat.zero_add,p0,hp,z3,z4,z5,z6,cond_false,Option.bind_some,h1.ld0,p1,e1,cd,h2.ld2,h2.ldr,p2,f1,decide_true,beq_self_eq_true]
 exact .some ⟨rfl,lab,g,σ2,n,h2.rc f2 f3,w2,.inl rfl⟩
theorem mharm7 (hp:∀ M,patinalaw08_pick k kk 10 M = some (7,M)):Ok (patinalaw08_Both_harm k (some ⟨b,0,none⟩) (opC kk a bb t v) M) (Dn m0 b c mm f R r N n):=by
 unfold patinalaw08_Both_harm
 have L9:Nat.beq (opC kk a bb t v).length 9 = true:=rfl
 have ho:=get_last (m:=M) (o:=.live (opC kk a bb t v)) rfl
 have h1:=h.grow (Gr.app M [.live (opC kk a bb t v)])
 have z3:((7:Int) == 3) = false:=rfl
 have z4:((7:Int) == 4) = false:=rfl
 have z5:((7:Int) == 5) = false:=rfl
 have z6:((7:Int) == 6) = false:=rfl
 have z7:((7:Int) == 7) = true:=rfl
 generalize M ++ [MObj.live (opC kk a bb t v)] = M1 at *
 have p0:ldInt .i64 M1 ⟨M.length,0,none⟩ = some kk:=ldInt_of ho rfl
 have e1:=nand_Power_is k h1.chip
 obtain ⟨h2,cm⟩:=h1.wrc { σ with off:=false,cut:=false,budget:=0 }
 generalize wr M1 c (chipC { σ with off:=false,cut:=false,budget:=0 }) = M2 at *
 obtain ⟨M3,f1,f2,f3⟩:=refAgain_is h2.ri.ref k
 simp only [L9,cond_true,plus,Nat.zero_add,p0,hp,z3,z4,z5,z6,z7,cond_false,Option.bind_some,h1.ld0,e1,h2.ld2,h2.ldr,f1,patinalaw08_Both_harm_j1]
 exact .some ⟨rfl,lab,g,_,n,h2.rc f2 f3,hw.power.mono (by omega),.inl rfl⟩
theorem mharm8 (hp:∀ M,patinalaw08_pick k kk 10 M = some (8,M)):Ok (patinalaw08_Both_harm k (some ⟨b,0,none⟩) (opC kk a bb t v) M) (Dn m0 b c mm f R r N n):=by
 unfold patinalaw08_Both_harm
 have L9:Nat.beq (opC kk a bb t v).length 9 = true:=rfl
 have ho:=get_last (m:=M) (o:=.live (opC kk a bb t v)) rfl
 have h1:=h.grow (Gr.app M [.live (opC kk a bb t v)])
 have hl:=h.loc (Nat.le_refl M.length)
 have z3:((8:Int) == 3) = false:=rfl
 have z4:((8:Int) == 4) = false:=rfl
 have z5:((8:Int) == 5) = false:=rfl
 have z6:((8:Int) == 6) = false:=rfl
 have z7:((8:Int) == 7) = false:=rfl
 have z8:((8:Int) == 8) = true:=rfl
 generalize M ++ [MObj.live (opC kk a bb t v)] = M1 at *
 have p0:ldInt .i64 M1 ⟨M.length,0,none⟩ = some kk:=ldInt_of ho rfl
 have pv:ldInt .u8 M1 ⟨M.length,8,none⟩ = some v:=ldInt_of ho rfl
 obtain ⟨w,dw⟩:=dataN_ok k (by omega) M1 64 (by omega) v
 have dw:patinalaw08_data k 64 v M1 = some (⟨some ⟨M1.length,0,none⟩,64,64⟩,M1 ++ [.live (bys 64 w)]):=dw
 have lD:=h1.loc (Nat.le_refl M1.length)
 have g2:=Gr.app M1 [.live (bys 64 w)]
 have xD:(M1 ++ [MObj.live (bys 64 w)])[M1.length]? = some (.live (bys 64 w)):=get_last rfl
 have h2:=h1.grow g2
 have ho2:=g2.get ho
 generalize M1 ++ [MObj.live (bys 64 w)] = M2 at *
 have p2:ldInt .i64 M2 ⟨M.length,1,none⟩ = some a:=ldInt_of ho2 rfl
 have p2b:ldInt .i64 M2 ⟨M.length,2,none⟩ = some bb:=ldInt_of ho2 rfl
 have hst:=hw.steps
 have Dc:c ≠ M1.length:=by have:=h1.cl;have:=lD.1;omega
 have e1:=nand_Write_is k h2.chip ⟨hst.1,by omega⟩ hw.bud hw.bf a bb (a:=some ⟨M1.length,0,none⟩) (n:=64) (cc:=64) (f:=byI w) (fun _ τ => Src.of (sp:=none) (by rw [wr_ne Dc];exact xD))
 obtain ⟨h3,cm⟩:=h2.wrc (σ.write a bb 64 (byI w)).2
 have ho3:=hl.main_get h2 cm ho2
 have xD3:=lD.main_get h2 cm xD
 generalize wr M2 c (chipC (σ.write a bb 64 (byI w)).2) = M3 at *
 have p3:ldInt .i64 M3 ⟨M.length,1,none⟩ = some a:=ldInt_of ho3 rfl
 have p3b:ldInt .i64 M3 ⟨M.length,2,none⟩ = some bb:=ldInt_of ho3 rfl
 have cd:=code_is k _ M3 (write_code σ a bb 64 (byI w))
 obtain ⟨M4,lab',g',f1,f2,f3⟩:=refWrite_is h3.ri.ref k ⟨hst.1,by omega⟩ hw.bud hw.bf a bb (a:=some ⟨M1.length,0,none⟩) (n:=64) (cc:=64) (w:=w) (fun _ M'' hk2 => Src.of (sp:=none) (by rw [hk2 _ (get_lt xD3) lD.2.1];exact xD3))
 simp only [L9,cond_true,plus,Nat.zero_add,p0,hp,z3,z4,z5,z6,z7,z8,cond_false,Option.bind_some,pv,dw,h2.ld0,p2,p2b,e1,cd,h3.ld2,h3.ldr,p3,p3b,f1,decide_true,beq_self_eq_true]
 exact .some ⟨rfl,lab',g',_,n,h3.rx f2 f3,(hw.write a bb 64 w).mono (by omega),.inl rfl⟩
theorem mstep_all (hk2:-9223372036854775808 ≤ kk ∧ kk < 9223372036854775808) (hv:0 ≤ v ∧ v < 256):Ok (patinalaw08_Both_step k (some ⟨b,0,none⟩) (opC kk a bb t v) M) (Dn m0 b c mm f R r N n):=by
 obtain ⟨z,hp,z0,z1⟩:∃ r,(∀ M,patinalaw08_pick k kk 10 M = some (r,M)) ∧ 0 ≤ r ∧ r < 10:=by
  by_cases h:kk < 0
  ·refine ⟨(-(kk + 1)) % 10,fun M => ?_,Int.emod_nonneg _ (by omega),Int.emod_lt_of_pos _ (by omega)⟩
   unfold patinalaw08_pick patinalaw08_pick_j1
   simp (disch:=omega) only [SX,plus]
   rw [show (0:Int) - (kk + 1) = -(kk + 1) by omega]
  ·refine ⟨kk % 10,fun M => ?_,Int.emod_nonneg _ (by omega),Int.emod_lt_of_pos _ (by omega)⟩
   unfold patinalaw08_pick patinalaw08_pick_j1
   simp (disch:=omega) only [SX,plus]
 have hz:z = 0 ∨ z = 1 ∨ z = 2 ∨ z = 3 ∨ z = 4 ∨ z = 5 ∨ z = 6 ∨ z = 7 ∨ z = 8 ∨ z = 9:=by omega
 rcases hz with rfl | rfl | rfl | rfl | rfl | rfl | rfl | rfl | rfl | rfl
 ·exact mstep0 k hk h hw hN hn ha hb hv hp
 ·exact mstep1 k hk h hw hN hn ha hb hp
 ·exact mstep2 k hk h hw hN hn ha hb hp
 ·exact mharm k hk h hw hN hn ha hb (z:=3) (by omega) (by omega) hp fun M h' => mharm3 k hk h' hw hN hn ha hb hp
 ·exact mharm k hk h hw hN hn ha hb (z:=4) (by omega) (by omega) hp fun M h' => mharm4 k hk h' hw hN hn ha hb hp
 ·exact mharm k hk h hw hN hn ha hb (z:=5) (by omega) (by omega) hp fun M h' => mharm5 k hk h' hw hN hn ha hb hp
 ·exact mharm k hk h hw hN hn ha hb (z:=6) (by omega) (by omega) hp fun M h' => mharm6 k hk h' hw hN hn ha hb hp
 ·exact mharm k hk h hw hN hn ha hb (z:=7) (by omega) (by omega) hp fun M h' => mharm7 k hk h' hw hN hn ha hb hp
 ·exact mharm k hk h hw hN hn ha hb (z:=8) (by omega) (by omega) hp fun M h' => mharm8 k hk h' hw hN hn ha hb hp
 ·exact mstep9 k hk h hw hN hn ha hb hp
end
end Go.Proofs.YtchonnaoojpdoaaGreat
set_option linter.unusedVariables false
set_option linter.unusedSectionVars false
set_option linter.unusedSimpArgs false
namespace Go.Proofs.YtchonnaoojpdoaaGreat
open Go.Mx
theorem wd_now {σ:ChipS} {p:Int} {W:Nat → GF} (hW:∀ (q i:Nat),q < 4 → i < 64 → (σ.at_ p q).now i = ((W (q * 64 + i)).v:Int)) {q:Nat} (hq:q < 4) {u:Nat → GF} (hu:(σ.at_ p q).now = byI u):∀ i,i < 64 → wd W q i = u i:=fun i hi => by
 have:=hW q i hq hi
 rw [hu] at this
 show W (q * 64 + i) = u i
 have e:byI u (i:Int) = ((u i).v:Int):=by unfold byI;rw [Int.toNat_natCast]
 rw [e] at this
 exact GF.v_inj (by omega)
theorem far_zero {W:Nat → GF} {t:TagT} {w:Nat → GF} {q:Nat} (h:∀ i,i < 64 → wd W q i = cws t w q i):far W t w q = 0:=GF.df_self h
theorem good_whole {σ:ChipS} {t:TagT} {w:Nat → GF} {W:Nat → GF} (hok:t.ok) (hg:Pg σ t.place (cws t w) 4) (hW:∀ (q i:Nat),q < 4 → i < 64 → (σ.at_ t.place q).now i = ((W (q * 64 + i)).v:Int)):good W t.place t w:=by
 have hz:∀ q,q < 4 → far W t w q = 0:=fun q hq => far_zero (wd_now hW hq (by rw [hg.done q hq]))
 obtain ⟨a1,a2,a3,a4,a5,a6⟩:=pgS_near (W:=W) (w:=w) hok fun j hj => by rw [hz j hj];omega
 have hs:=a4.2 ⟨by rw [hz 3 (by omega)];omega,by rw [hz 0 (by omega)];omega,by rw [hz 1 (by omega)];omega,by rw [hz 2 (by omega)];omega⟩
 have ht:=a2.2 (by rw [hz 3 (by omega)];omega)
 exact ⟨hs,a3 ht,a5 hs⟩
end Go.Proofs.YtchonnaoojpdoaaGreat
set_option linter.unusedVariables false
set_option linter.unusedSectionVars false
set_option linter.unusedSimpArgs false
namespace Go.Proofs.YtchonnaoojpdoaaGreat
open Go.Mx
theorem Gr.cmM {c mm:Nat} {m m2 m':Mem} (hg:Gr m m2) (hc:Cm c mm m2 m') (h1:m.length ≤ c) (h2:m.length ≤ mm):Gr m m':=by
 have hl:=hg.len
 refine Ch.gr ⟨Nat.le_trans hl hc.len,fun p hp _ => ?_⟩
 rw [hc.get p (by omega) (by rintro (he | he) <;> omega)]
 obtain ⟨g,hg⟩:=hg
 rw [hg];exact get_app_lt hp
theorem Pg.readd {σ:ChipS} {p:Int} {cw:Nat → Nat → GF} {j:Nat} (h:Pg σ p cw j) (q:Int):Pg (σ.readd q) p cw j:=by
 refine ⟨fun x => ?_,fun i hi => by rw [readd_at];exact h.done i hi,fun i h1 h2 => by rw [readd_at];exact h.todo i h1 h2,fun p' i h1 h2 h3 h4 => by rw [readd_at];exact h.rest p' i h1 h2 h3 h4⟩
 show ((upd σ.b (q / 8) _) x).before = 0 ∧ ((upd σ.b (q / 8) _) x).failed = false
 unfold upd
 split
 ·exact h.bf (q / 8)
 ·exact h.bf x
theorem shl_le (x:Int):0 ≤ shlI .u8 1 x ∧ shlI .u8 1 x < 256:=by
 unfold shlI
 simp only [IntKind.wrap,IntKind.bits,IntKind.signed,Bool.false_and,Bool.false_eq_true,if_false]
 omega
theorem flip_now {σ:ChipS} {p b:Int} {u:Nat → GF} (hb:0 ≤ b) (hu:∀ i:Nat,i < 64 → (σ.at_ p (b / 512)).now i = ((u i).v:Int)) (i:Nat) (hi:i < 64) :
 ((σ.flip p b).at_ p (b / 512)).now i = ((GF.flip u (b / 8 % 64).toNat (GF.of (shlI .u8 1 (b % 8)).toNat) i).v:Int):=by
 rw [mflip_at,if_pos rfl]
 show upd (σ.at_ p (b / 512)).now (b / 8 % 64) (bitI .xor .u8 ((σ.at_ p (b / 512)).now (b / 8 % 64)) (shlI .u8 1 (b % 8))) (i:Int) = _
 unfold upd GF.flip
 have hs:=shl_le (b % 8)
 have e2:shlI .u8 1 (b % 8) = ((GF.of (shlI .u8 1 (b % 8)).toNat).v:Int):=by rw [GF.v_of (by omega)];omega
 by_cases h:(i:Int) = b / 8 % 64
 ·rw [if_pos h,if_pos (by omega)]
  have:=hu i hi
  rw [h] at this
  rw [this]
  conv => lhs;rw [e2]
  rw [xor_v]
 ·rw [if_neg h,if_neg (by omega)];exact hu i hi
theorem wd_at {σ:ChipS} {p:Int} {W:Nat → GF} (hW:∀ (q i:Nat),q < 4 → i < 64 → (σ.at_ p q).now i = ((W (q * 64 + i)).v:Int)) {q:Nat} (hq:q < 4) {u:Nat → GF} (hu:∀ i:Nat,i < 64 → (σ.at_ p q).now i = ((u i).v:Int)):∀ i,i < 64 → wd W q i = u i:=fun i hi => by
 have h1:=hW q i hq hi
 rw [hu i hi] at h1
 show W (q * 64 + i) = u i
 exact GF.v_inj (by omega)
theorem df_congr {u u' w:Nat → GF} (h:∀ i,i < 64 → u i = u' i):GF.df u w = GF.df u' w:=GF.wt_congr fun i hi => by rw [h i hi]
theorem blank_now (i:Nat):blank.now i = (((fun _ => GF.of 255) i:GF).v:Int):=by
 show (255:Int) = _
 rw [GF.v_of (by omega)];rfl
def t1:TagT:=⟨0,0,1,0,false⟩
theorem t1_ok:t1.ok:=⟨by decide,by decide,by decide,by decide,by decide,by decide,by decide,by decide,fun _ => rfl,fun _ => by decide⟩
theorem shown8_ok (k:Nat) (hk:1000 < k) (m:Mem):Ok (patinalaw08_shown k m) fun r => r.1 = true ∧ Gr m r.2:=by
 unfold patinalaw08_shown
 refine .bind (newG k (by omega) m) ?_
 rintro ⟨_,m1⟩ ⟨c,rfl,g1,c1,c2⟩
 simp only at g1 c2 ⊢
 rw [Option.isNone_some,cond_false]
 refine .bind (mediaNew_ok k hk c2) ?_
 rintro ⟨_,m2⟩ ⟨mm,f,rfl,g2,h1,h2⟩
 simp only at g2 h2 ⊢
 rw [Option.isNone_some,cond_false]
 have g1l:=g1.len
 have clt:=get_lt h2.chip
 have mlt:=get_lt h2.med
 refine .bind (mediaRead_ok k hk h2 Wf.fresh (by omega) (by omega) 0 (by omega) rfl) ?_
 rintro ⟨_,_,m3⟩ ⟨W,R,L,hW,rfl,rfl,hR,hRd,cm3,hc3,hm3⟩
 simp only at hR hRd cm3 hc3 hm3 ⊢
 have eb:pgS W 0 = .no (mxm W 4):=pgS_blank (by
  rw [df_congr (u':=fun _ => GF.of 255) (wd_at hW (q:=3) (by omega) fun i _ => blank_now i)]
  exact Nat.le_trans (Nat.le_of_eq (GF.df_self fun _ _ => rfl)) (by omega))
 have hz:([.bool false,.int .i64 0,.int .i64 0,.int .i64 0,.int .i64 0,.bool false,.bool false,.slice none 0 0,.int .i64 0]:List Value) = pgC (.no 0) none:=rfl
 have L9:∀ p R,Nat.beq (pgC p R).length 9 = true:=fun _ _ => rfl
 have st9:∀ (M:Mem) p R,stCells (M ++ [.live (pgC (.no 0) none)]) ⟨M.length,0,none⟩ (pgC p R) = some (M ++ [.live (pgC p R)]):=fun M p R => by rw [stCells_wr (get_last rfl) (Nat.le_refl _),wr_last rfl];rfl
 have t174:Int.toNat 174 = 174:=rfl
 have hzd:repl 174 [Value.int .u8 0] = bys 174 fun _ => 0:=bys_zero 174
 have ht1:([.int .i64 0,.int .i64 0,.int .i64 1,.int .i64 0,.bool false]:List Value) = tagC t1:=rfl
 have l5:(m3 ++ [MObj.live (pgC (pgS W 0) R)]).length = m3.length + 1:=by simp
 simp only [hz,L9,cond_true,st9,Option.bind_some,t174,hzd,ht1]
 have g6:=(Gr.app m3 [.live (pgC (pgS W 0) R)]).trans (Gr.app _ [.live (bys 174 fun _ => 0)])
 have x6:(m3 ++ [MObj.live (pgC (pgS W 0) R)] ++ [MObj.live (bys 174 fun _ => 0)])[m3.length]? = some (.live (pgC (pgS W 0) R)):=get_grow (get_last rfl)
 have y6:(m3 ++ [MObj.live (pgC (pgS W 0) R)] ++ [MObj.live (bys 174 fun _ => 0)])[(m3 ++ [MObj.live (pgC (pgS W 0) R)]).length]? = some (.live (bys 174 fun _ => 0)):=get_last rfl
 have h6:=(h2.step cm3 hc3 hm3).grow g6
 have cl6:=cm3.len
 generalize hA:m3.length = A at *
 generalize hD:(m3 ++ [MObj.live (pgC (pgS W 0) R)]).length = D at *
 have cm6:Cm c mm m2 (m3 ++ [MObj.live (pgC (pgS W 0) R)] ++ [MObj.live (bys 174 fun _ => 0)]):=cm3.trans g6.cm
 generalize m3 ++ [MObj.live (pgC (pgS W 0) R)] ++ [MObj.live (bys 174 fun _ => 0)] = m6 at *
 have w1:Wf 1 (fresh.readd 0):=Wf.fresh.readd 0
 have hsrc:∀ M',Cm c mm m6 M' → Src M' (some ⟨D,0,none⟩) 174 fun _ => 0:=fun M' hc => Src.of (hc.old y6 (by rintro (he | he) <;> omega))
 refine .bind (mediaProgram_ok k hk h6 w1 (by omega) (by omega) (t:=t1) hsrc 0) ?_
 rintro ⟨_,m7⟩ ⟨cm7,⟨hn,_⟩ | ⟨_,_,_,hp7⟩⟩
 ·exact absurd ⟨t1_ok,rfl,rfl⟩ hn
 obtain ⟨i1,_⟩:=((Pg.fresh 0 (cws t1 fun _ => 0)).readd 0).whole (by omega) 4 0 (fresh.readd 0) rfl rfl (fun h => nomatch h)
 obtain ⟨q1,q2,q3⟩:=i1 (fun h => nomatch h)
 rcases hp7 with ⟨hb,_⟩ | ⟨_,W7,hW7,hgood,_,hc7,hm7⟩
 ·exact absurd q1 hb
 have hr7:=hgood (good_whole (t:=t1) t1_ok q2 hW7)
 simp only at hr7 cm7 hc7 hm7 ⊢
 subst hr7
 have w2:∃ N,N < 1000 ∧ Wf N (wrN 0 (cws t1 fun _ => 0) 4 0 (fresh.readd 0)).2:=by
  have key:∀ (d j N:Nat) (σ:ChipS),Wf N σ → Wf (N + d) (wrN 0 (cws t1 fun _ => 0) d j σ).2:=by
   intro d
   induction d with
   | zero => intro j N σ h;exact h
   | succ d ih =>
    intro j N σ h
    show Wf _ (if _ then _ else _:Int × ChipS).2
    have hw:=h.write 0 j 64 (cws t1 (fun _ => 0) j)
    split
    ·exact (ih (j + 1) (N + 1) _ hw).mono (by omega)
    ·exact hw.mono (by omega)
  exact ⟨5,by omega,(key 4 0 1 _ w1).mono (by omega)⟩
 generalize wrN 0 (cws t1 fun _ => 0) 4 0 (fresh.readd 0) = xx at *
 obtain ⟨ec,σ2⟩:=xx
 obtain ⟨N2,hN2,w2⟩:=w2
 simp only at q1 q2 q3 hW7 hc7 w2
 have h7:=h6.step cm7 hc7 hm7
 have e8:=nand_Flip_all k (by omega) h7.chip 0 0
 rw [if_pos (by omega),if_pos (by omega)] at e8
 have c8:=wr_get (cs:=chipC ((σ2.readd 0).flip 0 0)) hc7
 have e9:=nand_Flip_all k (by omega) c8 0 1600
 rw [if_pos (by omega),if_pos (by omega),wr_wr] at e9
 have c9:=wr_get (cs:=chipC (((σ2.readd 0).flip 0 0).flip 0 1600)) hc7
 have cm9:Cm c mm m7 (wr m7 c (chipC (((σ2.readd 0).flip 0 0).flip 0 1600))):=(Ch.refl _ _).wr (.inl (.inl rfl)) _
 have hm9:(wr m7 c (chipC (((σ2.readd 0).flip 0 0).flip 0 1600)))[mm]? = some (.live (medC c f (0 + 1 + 1))):=by rw [wr_ne (Ne.symm h7.ne)];exact hm7
 simp only [e8,Option.bind_some,e9]
 have h9:=h7.step cm9 c9 hm9
 have w9:Wf (N2 + 1) (((σ2.readd 0).flip 0 0).flip 0 1600):=((w2.readd 0).flip 0 0 (by omega)).flip 0 1600 (by omega)
 have at1:∀ q:Nat,q < 4 → ∀ i:Nat,i < 64 → ((σ2.readd 0).at_ 0 q).now i = ((cws t1 (fun _ => 0) q i).v:Int):=fun q hq i hi => by
  rw [readd_at,q2.done q hq]
  show byI _ _ = _
  unfold byI;rw [Int.toNat_natCast]
 have n8:∀ i:Nat,i < 64 → (((σ2.readd 0).flip 0 0).at_ 0 ((0:Nat):Int)).now i = ((GF.flip (cws t1 (fun _ => 0) 0) 0 (GF.of 1) i).v:Int):=fun i hi => flip_now (σ:=σ2.readd 0) (p:=0) (b:=0) (by omega) (at1 0 (by omega)) i hi
 have n8':∀ q:Nat,0 < q → q < 4 → ∀ i:Nat,i < 64 → (((σ2.readd 0).flip 0 0).at_ 0 q).now i = ((cws t1 (fun _ => 0) q i).v:Int):=fun q h0 hq i hi => by
  rw [mflip_at,if_neg (by omega)];exact at1 q hq i hi
 have n9:∀ i:Nat,i < 64 → ((((σ2.readd 0).flip 0 0).flip 0 1600).at_ 0 ((3:Nat):Int)).now i = ((GF.flip (cws t1 (fun _ => 0) 3) 8 (GF.of 1) i).v:Int):=fun i hi => flip_now (σ:=(σ2.readd 0).flip 0 0) (p:=0) (b:=1600) (by omega) (n8' 3 (by omega) (by omega)) i hi
 have n9':∀ q:Nat,q < 3 → (((σ2.readd 0).flip 0 0).flip 0 1600).at_ 0 (q:Int) = ((σ2.readd 0).flip 0 0).at_ 0 (q:Int):=fun q hq => by
  rw [mflip_at,if_neg (by omega)]
 refine .bind (mediaRead_ok k hk h9 w9 (by omega) (by omega) 0 (by omega) q3) ?_
 rintro ⟨_,_,m10⟩ ⟨W',R',L',hW',rfl,rfl,hR',hRd',cm10,hc10,hm10⟩
 simp only at hR' hRd' cm10 hc10 hm10 ⊢
 have one_ne:GF.of 1 ≠ 0:=by decide
 have f0:far W' t1 (fun _ => 0) 0 = 1:=by
  unfold far
  rw [df_congr (wd_at hW' (q:=0) (by omega) fun i hi => by rw [n9' 0 (by omega)];exact n8 i hi),GF.df_comm]
  exact GF.df_flip _ (by omega) one_ne
 have f3:far W' t1 (fun _ => 0) 3 = 1:=by
  unfold far
  rw [df_congr (wd_at hW' (q:=3) (by omega) n9),GF.df_comm]
  exact GF.df_flip _ (by omega) one_ne
 have f12:∀ q,0 < q → q < 3 → far W' t1 (fun _ => 0) q = 0:=fun q h0 hq => far_zero (wd_at hW' (by omega) fun i hi => by rw [n9' q hq];exact n8' q h0 (by omega) i hi)
 have fall:∀ j,j < 4 → far W' t1 (fun _ => 0) j ≤ 2:=fun j hj => by
  have:j = 0 ∨ j = 1 ∨ j = 2 ∨ j = 3:=by omega
  rcases this with rfl | rfl | rfl | rfl
  ·omega
  ·rw [f12 1 (by omega) (by omega)];omega
  ·rw [f12 2 (by omega) (by omega)];omega
  ·omega
 obtain ⟨a1,a2,a3,a4,a5,a6⟩:=pgS_near (W:=W') (w:=fun _ => 0) t1_ok fun j hj => by have:=fall j hj;omega
 have hpl:t1.place = 0:=rfl
 rw [hpl] at a1 a2 a3 a4 a5
 have htg:=a2.2 (fall 3 (by omega))
 have hts:=a4.2 ⟨fall 3 (by omega),fall 0 (by omega),fall 1 (by omega),fall 2 (by omega)⟩
 have htt:=a3 htg
 have hdm:(pgS W' 0).dmg = 1:=by
  rw [a1,mxm_all fall 4 (Nat.le_refl _)]
  simp only [mxN,f0,f3,f12 1 (by omega) (by omega),f12 2 (by omega) (by omega)]
  rfl
 simp only [L9,cond_true,st9,Option.bind_some,t174,hzd]
 have g13:=(Gr.app m10 [.live (pgC (pgS W' 0) R')]).trans (Gr.app _ [.live (bys 174 fun _ => 0)])
 have x13:(m10 ++ [MObj.live (pgC (pgS W' 0) R')] ++ [MObj.live (bys 174 fun _ => 0)])[m10.length]? = some (.live (pgC (pgS W' 0) R')):=get_grow (get_last rfl)
 have y13:(m10 ++ [MObj.live (pgC (pgS W' 0) R')] ++ [MObj.live (bys 174 fun _ => 0)])[(m10 ++ [MObj.live (pgC (pgS W' 0) R')]).length]? = some (.live (bys 174 fun _ => 0)):=get_last rfl
 have h13:=(h9.step cm10 hc10 hm10).grow g13
 have z9:(wr m7 c (chipC (((σ2.readd 0).flip 0 0).flip 0 1600))).length = m7.length:=wr_len
 have cl7:=cm7.len
 have cl10:=cm10.len
 have xA:=cm10.old (cm9.old (cm7.old x6 (by rintro (he | he) <;> omega)) (by rintro (he | he) <;> omega)) (by rintro (he | he) <;> omega)
 have xA13:=g13.get xA
 have cm13:=(((cm6.trans cm7).trans cm9).trans cm10).trans g13.cm
 have Alt:=get_lt x6
 generalize hB:m10.length = B at *
 generalize hE:(m10 ++ [MObj.live (pgC (pgS W' 0) R')]).length = E at *
 have hEB:E = B + 1:=by rw [← hE,← hB];simp
 generalize m10 ++ [MObj.live (pgC (pgS W' 0) R')] ++ [MObj.live (bys 174 fun _ => 0)] = m13 at *
 have hsrc2:∀ M',Cm c mm m13 M' → Src M' (some ⟨E,0,none⟩) 174 fun _ => 0:=fun M' hc => Src.of (hc.old y13 (by rintro (he | he) <;> omega))
 refine .bind (mediaProgram_ok k hk h13 (w9.readd 0) (by omega) (by omega) (t:=t1) hsrc2 1) ?_
 rintro ⟨_,m14⟩ ⟨cm14,⟨_,rfl,hc14,hm14⟩ | ⟨_,hn,_⟩⟩
 ·simp only at cm14 hc14 hm14 ⊢
  have yA:=cm14.old xA13 (by rintro (he | he) <;> omega)
  have yB:=cm14.old x13 (by rintro (he | he) <;> omega)
  rw [eb] at yA
  have b0:ldBool m14 ⟨A,0,none⟩ = some false:=ldBool_of yA rfl
  have b6:ldBool m14 ⟨A,6,none⟩ = some false:=ldBool_of yA rfl
  have d0:ldBool m14 ⟨B,0,none⟩ = some true:=by rw [ldBool_of yB rfl,htg]
  have d6:ldBool m14 ⟨B,6,none⟩ = some true:=by rw [ldBool_of yB rfl,hts]
  have d3:ldInt .i64 m14 ⟨B,3,none⟩ = some 1:=by rw [ldInt_of yB rfl,htt];rfl
  have d8:ldInt .i64 m14 ⟨B,8,none⟩ = some 1:=by rw [ldInt_of yB rfl,hdm];rfl
  have n0:isNil .nilIface = some true:=rfl
  have n1:isNil (errC 0) = some true:=rfl
  have o1:((1:Int) == 1) = true:=rfl
  have ie:ifEq tt (errC 1) (.iface ty_api_Code (.int .i64 1)) = some true:=by rw [ifEq_errC 1 1 (by omega)];rfl
  have rr:media_Media_Reads k (some ⟨mm,0,none⟩) m14 = some (3,m14):=by
   unfold media_Media_Reads sync_atomic_Int64_Load sync_atomic_LoadInt64 atLoad
   have:ldInt .i64 m14 ⟨mm,2,none⟩ = some 3:=ldInt_of hm14 rfl
   simp only [Option.bind_some,plus,Nat.zero_add,Nat.add_zero,this]
  have o3:((3:Int) == 3) = true:=rfl
  simp only [plus,Nat.zero_add,b0,Option.bind_some,Bool.not_false,cond_true,b6,n0,n1,d0,d6,Nat.reduceAdd,d3,o1,d8,ie,rr,o3]
  exact .some ⟨rfl,(g1.trans g2).cmM (cm13.trans cm14) c1 (by omega)⟩
 ·exact absurd hn (by show ¬ (0:Int) = 1;omega)
end Go.Proofs.YtchonnaoojpdoaaGreat
set_option linter.unusedVariables false
set_option linter.unusedSectionVars false
set_option linter.unusedSimpArgs false
namespace Go.Proofs.YtchonnaoojpdoaaGreat
open Go.Mx
theorem begun9_ok (k:Nat) (hk:1000 < k) (m:Mem):Ok (patinalaw08_begun k m) fun x => ∃ m0 b c mm f R r lab g,x.1 = some ⟨b,0,none⟩ ∧ BI m0 x.2 b c mm f R r lab g fresh fresh 0 0 ∧ Gr m m0 ∧ m.length ≤ c ∧ m.length ≤ mm:=by
 unfold patinalaw08_begun
 refine .bind (newG k (by omega) m) ?_
 rintro ⟨_,m1⟩ ⟨c,rfl,g1,c1,c2⟩
 simp only at g1 c2 ⊢
 rw [Option.isNone_some,cond_false]
 refine .bind (mediaNew_ok k hk c2) ?_
 rintro ⟨_,m2⟩ ⟨mm,f,rfl,g2,h1,h2⟩
 simp only at g2 h2 ⊢
 rw [Option.isNone_some,cond_false]
 refine .bind (refNew_ok k (by omega) m2) ?_
 rintro ⟨_,m3⟩ ⟨rfl,lab,g,hR,g3,hl⟩
 simp only at g3 hR ⊢
 have g4:=Gr.app m3 [.live (rmed m2.length 0)]
 have x4:(m3 ++ [MObj.live (rmed m2.length 0)])[m3.length]? = some (.live (rmed m2.length 0)):=get_last rfl
 have l4:(m3 ++ [MObj.live (rmed m2.length 0)]).length = m3.length + 1:=by simp
 have e4:m3 ++ [MObj.live [.pointer (some ⟨m2.length,0,none⟩),.int .i64 0]] = m3 ++ [MObj.live (rmed m2.length 0)]:=rfl
 rw [e4]
 generalize m3 ++ [MObj.live (rmed m2.length 0)] = m4 at *
 have g5:=Gr.app m4 [.live (bcell c mm m3.length)]
 have q3:=g3.len
 have q1:=g1.len
 have none_of:∀ q,m3.length ≤ q → lab q = none:=fun q hq => by
  cases hc:lab q with
  | none => rfl
  | some x => have:=hR.lt q (by rw [hc];simp);omega
 have gg:=(g3.trans g4).trans g5
 exact .some ⟨m2,m4.length,c,mm,f,m3.length,m2.length,lab,g,rfl,⟨gg.cm,h2,gg.get h2.chip,gg.get h2.med,⟨g5.get x4,hR.grow (g4.trans g5),none_of _ (Nat.le_refl _)⟩,get_last rfl,hl,q3,by omega,none_of _ (by omega),by omega⟩,g1.trans g2,by omega,by omega⟩
theorem wrap64_rng (z:Int):-9223372036854775808 ≤ IntKind.wrap .i64 z ∧ IntKind.wrap .i64 z < 9223372036854775808:=by
 simp only [IntKind.wrap,IntKind.bits,IntKind.signed]
 simp
 omega
def ks9:List Leaf:=[.int .i64,.int .i64,.int .i64,.int .i64,.int .i64,.int .i64,.int .i64,.bool,.int .u8]
theorem op_at {o:MObj} {q:Option Addr} {N:Nat} {cs:List Value} (hh:Holds o 0 q N ks9 cs) {m:Mem} (hm:m[0]? = some o) {j:Nat} (hj:j < N) :
 ∃ kk a bb t v,ldCells m ⟨0,j * 9,none⟩ 9 = some (opC kk a bb t v) ∧ ldInt .i64 m ⟨0,j * 9 + 1,none⟩ = some a ∧ (-9223372036854775808 ≤ kk ∧ kk < 9223372036854775808) ∧ (-9223372036854775808 ≤ a ∧ a < 9223372036854775808) ∧ (-9223372036854775808 ≤ bb ∧ bb < 9223372036854775808) ∧ 0 ≤ v ∧ v < 256:=by
 have c:=hh.ldCells hm hj (by decide)
 have h0:=hh.int hj (q:=0) (k:=.i64) rfl
 have h1:=hh.int hj (q:=1) (k:=.i64) rfl
 have h2:=hh.int hj (q:=2) (k:=.i64) rfl
 have h3:=hh.int hj (q:=3) (k:=.i64) rfl
 have h4:=hh.int hj (q:=4) (k:=.i64) rfl
 have h5:=hh.int hj (q:=5) (k:=.i64) rfl
 have h6:=hh.int hj (q:=6) (k:=.i64) rfl
 have h8:=hh.int hj (q:=8) (k:=.u8) rfl
 obtain ⟨l,h7⟩:=hh.2.1 j 7 .bool hj rfl
 have l1:=hh.ldInt hm hj (q:=1) (k:=.i64) rfl (off:=j * 9 + 1) rfl
 have kl:ks9.length = 9:=rfl
 rw [kl] at c h0 h1 h2 h3 h4 h5 h6 h7 h8 l1
 refine ⟨_,_,_,⟨intAt (cs.getD (j * 9 + 3) undef),intAt (cs.getD (j * 9 + 4) undef),intAt (cs.getD (j * 9 + 5) undef),intAt (cs.getD (j * 9 + 6) undef),l⟩,_,?_,l1,wf64 h0.1,wf64 h1.1,wf64 h2.1,wf8 h8.1⟩
 rw [c]
 have r9:List.range 9 = [0,1,2,3,4,5,6,7,8]:=rfl
 rw [r9]
 simp only [List.map_cons,List.map_nil,opC]
 rw [← h0.2,← h1.2,← h2.2,← h3.2,← h4.2,← h5.2,← h6.2,← h7,← h8.2]
theorem read_op (x:Int):([Value.int .i64 1,.int .i64 x,.int .i64 0,.int .i64 0,.int .i64 0,.int .i64 0,.int .i64 0,.bool false,.int .u8 0]:List Value) = opC 1 x 0 ztag 0:=rfl
theorem mediaPlays_run (o:MObj) (q:Option Addr) (N c':Nat) (cs:List Value) (hh:Holds o 0 q N [.int .i64,.int .i64,.int .i64,.int .i64,.int .i64,.int .i64,.int .i64,.bool,.int .u8] cs) (hc:N ≤ c') (hN:N * 72 ≤ 140737488351232) :
 ∃ k m',patinalaw08_MediaPlays k q N c' [o] = some (true,m'):=by
 obtain ⟨k,hk,hkN⟩:∃ k,1005 < k ∧ N < k:=⟨N + 1006,by omega,by omega⟩
 refine ⟨k,?_⟩
 have hh:Holds o 0 q N ks9 cs:=hh
 have key:Ok (patinalaw08_MediaPlays k q N c' [o]) fun r => r.1 = true:=by
  unfold patinalaw08_MediaPlays
  refine .bind (shown8_ok k (by omega) [o]) ?_
  rintro ⟨_,m1⟩ ⟨rfl,g1⟩
  simp only at g1 ⊢
  refine .bind (begun9_ok k (by omega) m1) ?_
  rintro ⟨_,m2⟩ ⟨m0,b,c,mm,f,R,r,lab,g,rfl,hB,gg,hcl,hml⟩
  simp only at hB ⊢
  rw [Option.isNone_some,cond_false]
  have l1:=g1.len
  have l1:1 ≤ m1.length:=l1
  have o0:m0[0]? = some o:=gg.get (g1.get rfl)
  have oget:∀ {M:Mem} {lab:Nat → Option Lab} {g:RG} {σ ρ:ChipS} {n ν:Int},BI m0 M b c mm f R r lab g σ ρ n ν → M[0]? = some o:=fun h => h.base.old o0 (by rintro (h | h) <;> omega)
  refine patinalaw08_MediaPlays_l0_rule k _ _ (fun d x0a x0n x0c x3 x4 x5 M => q = x0a ∧ N = x0n ∧ c' = x0c ∧ true = x3 ∧ (some ⟨b,0,none⟩:Option Addr) = x4 ∧ ∃ (i:Nat) (lab:Nat → Option Lab) (g:RG) (σ:ChipS) (n:Int),x5 = i ∧ i + d = N ∧ BI m0 M b c mm f R r lab g σ σ n n ∧ Wf (5 * i) σ ∧ 0 ≤ n ∧ n ≤ i) ?_ k N _ _ _ _ _ _ _ (by omega)
   ⟨rfl,rfl,rfl,rfl,rfl,0,lab,g,fresh,0,rfl,by omega,hB,.fresh,by omega,by omega⟩
  clear hB lab g
  rintro d nx _ _ _ _ _ _ M ⟨rfl,rfl,rfl,rfl,rfl,i,lab,g,σ,n,rfl,hd,hB,hw,n0,n1⟩ hnx
  unfold patinalaw08_MediaPlays_l0_b
  have ti:∀ i:Nat,Int.toNat (i:Int) = i:=fun i => Int.toNat_natCast i
  by_cases hi:(i:Int) < N
  ·have hp:=hh.ptr (j:=i) (by omega)
   obtain ⟨kk,a,bb,t,v,e1,_,w0,w1,w2,w3⟩:=op_at hh (oget hB) (j:=i) (by omega)
   have i1:inRange (i:Int) N = true:=inRange_yes (by omega) hi
   rw [hp]
   simp only [decide_eq_true hi,cond_true,i1,Option.bind_some,plus,Nat.zero_add,ti,e1]
   refine .bind (mstep_all k hk hB hw (by omega) ⟨n0,by omega⟩ w1 w2 w0 w3) ?_
   rintro ⟨_,M'⟩ ⟨rfl,lab',g',σ',n',hB',hw',hn'⟩
   simp only at hB' ⊢
   rw [Bool.not_true,cond_false]
   exact hnx (d - 1) _ _ _ _ _ _ _ (by omega) ⟨by rw [hp],rfl,rfl,rfl,rfl,i + 1,lab',g',σ',n',by rw [wrap_i64 (by omega) (by omega)];push_cast;rfl,by omega,hB',hw'.mono (by omega),by omega,by push_cast;omega⟩
  ·clear hnx
   obtain rfl:i = N:=by omega
   rw [decide_eq_false hi,cond_false]
   clear hi hd d
   refine patinalaw08_MediaPlays_l2_rule k _ _ (fun d x0a x0n x0c x3 x4 x7 M' => q = x0a ∧ i = x0n ∧ c' = x0c ∧ true = x3 ∧ (some ⟨b,0,none⟩:Option Addr) = x4 ∧ M = M' ∧ ∃ j:Nat,x7 = j ∧ j + d = 12) ?_ k 12 _ _ _ _ _ _ _ (by omega)
    ⟨rfl,rfl,rfl,rfl,rfl,rfl,0,rfl,rfl⟩
   rintro d nx _ _ _ _ _ _ _ ⟨rfl,rfl,rfl,rfl,rfl,rfl,j,rfl,hd⟩ hnx
   unfold patinalaw08_MediaPlays_l2_b
   by_cases hj:(j:Int) < 12
   ·have r1:=nand_Reads_is k hB.chip (j:Int)
    have r2:=refReads_is hB.ri.ref k (j:Int)
    have r3:=nand_Failed_is k hB.chip (j:Int)
    have r4:=refFailed_is hB.ri.ref k (j:Int)
    rw [if_pos ⟨by omega,hj⟩] at r1 r2 r3 r4
    have nn:isNil .nilIface = some true:=rfl
    have b1:((σ.b (j:Int)).reads != (σ.b (j:Int)).reads) = false:=by simp
    have b2:((σ.b (j:Int)).failed == (σ.b (j:Int)).failed) = true:=by simp
    simp only [decide_eq_true hj,cond_true,Option.bind_some,plus,Nat.zero_add,Nat.add_zero,hB.ld0,r1,hB.ld2,hB.ldr,r2,r3,r4,nn,Bool.not_true,cond_false,b1,b2]
    exact hnx (d - 1) _ _ _ _ _ _ _ (by omega) ⟨rfl,rfl,rfl,rfl,rfl,rfl,j + 1,by rw [wrap_i64 (by omega) (by omega)];push_cast;rfl,by omega⟩
   ·clear hnx
    rw [decide_eq_false hj,cond_false]
    clear hj hd d
    have s1:=nand_Steps_is k hB.chip
    have s2:=hB.ri.ref.ldSteps
    have e1:=nand_Power_is k hB.chip
    obtain ⟨h2,cm⟩:=hB.wrc { σ with off:=false,cut:=false,budget:=0 }
    simp only [Option.bind_some,plus,Nat.zero_add,Nat.add_zero,hB.ld0,s1,hB.ld2,hB.ldr,s2,decide_true,cond_true,beq_self_eq_true,e1]
    generalize wr M c (chipC { σ with off:=false,cut:=false,budget:=0 }) = M2 at *
    obtain ⟨M3,f1,f2,f3⟩:=refAgain_is h2.ri.ref k
    have h3:=h2.rc f2 f3
    simp only [h2.ld2,h2.ldr,Option.bind_some,f1]
    have hw3:Wf (5 * i) { σ with off:=false,cut:=false,budget:=0 }:=hw.power
    clear f1 f2 f3 h2 cm e1 s1 s2 hB
    generalize ({ σ with off:=false,cut:=false,budget:=0 }:ChipS) = τ at *
    refine patinalaw08_MediaPlays_l4_rule k _ _ (fun d x0a x0n x0c x3 x4 x16 x17 M' => q = x0a ∧ i = x0n ∧ c' = x0c ∧ true = x3 ∧ (some ⟨b,0,none⟩:Option Addr) = x4 ∧ true = x16 ∧ ∃ (j:Nat) (lab:Nat → Option Lab) (g:RG) (σ:ChipS) (n:Int),x17 = j ∧ j + d = 20 ∧ BI m0 M' b c mm f R r lab g σ σ n n ∧ Wf (5 * i + 5 * j) σ ∧ 0 ≤ n ∧ n ≤ i + j) ?_ k 20 _ _ _ _ _ _ _ _ (by omega)
     ⟨rfl,rfl,rfl,rfl,rfl,rfl,0,lab,g,τ,n,rfl,rfl,h3,hw3,n0,by omega⟩
    clear h3 hw3 n0 n1 lab g τ
    rintro d nx _ _ _ _ _ _ _ M4 ⟨rfl,rfl,rfl,rfl,rfl,rfl,j,lab,g,σ,n,rfl,hd,hB,hw,n0,n1⟩ hnx
    unfold patinalaw08_MediaPlays_l4_b
    by_cases hj:(j:Int) < 20
    ·rw [decide_eq_true hj,cond_true]
     have j1:∀ x:Int,-9223372036854775808 ≤ x ∧ x < 9223372036854775808 → Ok (patinalaw08_MediaPlays_j1 k q i c' true (some ⟨b,0,none⟩) true (j:Int) nx (fun y2 m49 => some (y2,m49)) x M4) fun r => r.1 = true:=fun x hx => by
      unfold patinalaw08_MediaPlays_j1
      rw [read_op]
      refine .bind (mstep_all k hk hB hw (by omega) ⟨n0,by omega⟩ hx ⟨by omega,by omega⟩ ⟨by omega,by omega⟩ ⟨by omega,by omega⟩) ?_
      rintro ⟨_,M'⟩ ⟨rfl,lab',g',σ',n',hB',hw',hn'⟩
      simp only at hB' ⊢
      rw [Bool.not_true,cond_false]
      exact hnx (d - 1) _ _ _ _ _ _ _ _ (by omega) ⟨rfl,rfl,rfl,rfl,rfl,rfl,j + 1,lab',g',σ',n',by rw [wrap_i64 (by omega) (by omega)];push_cast;rfl,by omega,hB',hw'.mono (by omega),by omega,by push_cast;omega⟩
     by_cases h16:(j:Int) ≥ 16
     ·rw [decide_eq_true h16,cond_true]
      exact j1 _ (wrap64_rng _)
     ·rw [decide_eq_false h16,cond_false]
      exact j1 _ ⟨by omega,by omega⟩
    ·clear hnx
     obtain rfl:j = 20:=by omega
     rw [decide_eq_false hj,cond_false]
     clear hj hd d
     refine patinalaw08_MediaPlays_l6_rule k _ _ (fun d x0a x0n x0c x3 x4 x16 x20 M' => q = x0a ∧ i = x0n ∧ c' = x0c ∧ true = x3 ∧ (some ⟨b,0,none⟩:Option Addr) = x4 ∧ true = x16 ∧ ∃ (j:Nat) (lab:Nat → Option Lab) (g:RG) (σ:ChipS) (n:Int),x20 = j ∧ j + d = i ∧ BI m0 M' b c mm f R r lab g σ σ n n ∧ Wf (5 * i + 100 + 5 * j) σ ∧ 0 ≤ n ∧ n ≤ i + 20 + j) ?_ k i _ _ _ _ _ _ _ _ (by omega)
      ⟨rfl,rfl,rfl,rfl,rfl,rfl,0,lab,g,σ,n,rfl,by omega,hB,hw,n0,by omega⟩
     clear hB hw n0 n1 lab g σ
     rintro d nx _ _ _ _ _ _ _ M5 ⟨rfl,rfl,rfl,rfl,rfl,rfl,j,lab,g,σ,n,rfl,hd,hB,hw,n0,n1⟩ hnx
     unfold patinalaw08_MediaPlays_l6_b
     by_cases hj:(j:Int) < i
     ·have hp:=hh.ptr (j:=j) (by omega)
      obtain ⟨_,a,_,_,_,_,e1,_,w1,_⟩:=op_at hh (oget hB) (j:=j) (by omega)
      have i1:inRange (j:Int) i = true:=inRange_yes (by omega) hj
      rw [hp]
      simp only [decide_eq_true hj,cond_true,i1,Option.bind_some,plus,Nat.zero_add,ti,e1,read_op]
      refine .bind (mstep_all k hk hB hw (by omega) ⟨n0,by omega⟩ w1 ⟨by omega,by omega⟩ ⟨by omega,by omega⟩ ⟨by omega,by omega⟩) ?_
      rintro ⟨_,M'⟩ ⟨rfl,lab',g',σ',n',hB',hw',hn'⟩
      simp only at hB' ⊢
      rw [Bool.not_true,cond_false]
      exact hnx (d - 1) _ _ _ _ _ _ _ _ (by omega) ⟨by rw [hp],rfl,rfl,rfl,rfl,rfl,j + 1,lab',g',σ',n',by rw [wrap_i64 (by omega) (by omega)];push_cast;rfl,by omega,hB',hw'.mono (by omega),by omega,by push_cast;omega⟩
     ·clear hnx
      rw [decide_eq_false hj,cond_false]
      have lr:ldInt .i64 M5 ⟨mm,2,none⟩ = some n:=ldInt_of hB.med rfl
      simp only [cond_true,Option.bind_some,plus,Nat.zero_add,Nat.add_zero,hB.ld1,media_Media_Reads,sync_atomic_Int64_Load,sync_atomic_LoadInt64,atLoad,lr,hB.ld2,hB.ldn,decide_true,beq_self_eq_true]
      exact .some rfl
 obtain ⟨⟨r,m'⟩,h1,h2⟩:=key
 exact ⟨m',by rw [h1];simp only at h2;rw [h2]⟩
end Go.Proofs.YtchonnaoojpdoaaGreat
