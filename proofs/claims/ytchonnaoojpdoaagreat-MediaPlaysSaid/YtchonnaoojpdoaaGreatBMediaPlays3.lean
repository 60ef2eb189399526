import Derived.Test.YtchonnaoojpdoaaGreatBMediaPlays2
import Derived.Test.YtchonnaoojpdoaaGreatFtag
import Derived.Test.YtchonnaoojpdoaaGreatFpatinaref07
import Derived.Test.YtchonnaoojpdoaaGreatFmedia
import Derived.Test.YtchonnaoojpdoaaGreatFpatinaref06
import Derived.Test.YtchonnaoojpdoaaGreatFpatinaref08
import Derived.Test.YtchonnaoojpdoaaGreatBMediaPlays1
set_option linter.unusedVariables false
set_option linter.unusedSectionVars false
set_option linter.unusedSimpArgs false
namespace Go.Proofs.YtchonnaoojpdoaaGreat
open Go.Mx
def dig (v i:Nat):GF:=GF.of (v / 256 ^ i % 256)
theorem dig_v (v i:Nat):(dig v i).v = v / 256 ^ i % 256:=GF.v_of (Nat.mod_lt _ (by omega))
theorem shr8 (x:Nat):shrI .u64 (x:Int) 8 = ((x / 256:Nat):Int):=by
 unfold shrI
 have:min (Int.toNat 8) (IntKind.bits .u64) = 8:=rfl
 rw [this]
 show ((x:Int).fdiv 256) = _
 rw [Int.fdiv_eq_ediv_of_nonneg _ (by omega)];omega
theorem wrapN8 (x:Nat):IntKind.wrap .u8 (x:Int) = ((x % 256:Nat):Int):=by
 unfold IntKind.wrap
 simp only [IntKind.bits,IntKind.signed,Bool.false_and,Bool.false_eq_true,if_false]
 omega
theorem put_is (k:Nat) (hk:10 < k) (m:Mem) (v n:Nat) (h1:1 ≤ n) (h8:n ≤ 8) (hv:v < 256 ^ n):wire_Put k (v:Int) (n:Int) m = some (⟨some ⟨m.length,0,none⟩,n,n⟩,.nilIface,m ++ [.live (bys n (dig v))]):=by
 have key:Ok (wire_Put k (v:Int) (n:Int) m) fun r => r = (⟨some ⟨m.length,0,none⟩,n,n⟩,.nilIface,m ++ [.live (bys n (dig v))]):=by
  unfold wire_Put
  have hb:(tt 5).bytes = 1:=rfl
  have hm:((most:Nat):Int) = 140737488355328:=rfl
  have c1:decide ((n:Int) < 1) = false:=decide_eq_false (by omega)
  have c2:decide ((n:Int) > 8) = false:=decide_eq_false (by omega)
  have c3:decide (0 ≤ (n:Int)) = true:=decide_eq_true (by omega)
  have c4:decide ((n:Int) ≤ n) = true:=decide_eq_true (by omega)
  have c5:decide ((n:Int) * ((1:Nat):Int) ≤ 140737488355328) = true:=decide_eq_true (by omega)
  have c6:decide ((n:Int) ≤ 140737488355328) = true:=decide_eq_true (by omega)
  rw [c1,c2,hb,hm,c3,c4,c5,c6]
  simp only [cond_false,cond_true,Bool.and_self,Int.toNat_natCast]
  rw [bys_zero]
  refine wire_Put_l0_rule k _ (fun r x0 x6a x6n x6c x18 x19 m' => (some ⟨m.length,0,none⟩:Option Addr) = x6a ∧ n = x6n ∧ n = x6c ∧ (n:Int) = x18 ∧ ∃ i:Nat,x19 = i ∧ i + r = n ∧ x0 = ((v / 256 ^ i:Nat):Int) ∧ m' = m ++ [.live (bys n fun j => if j < i then dig v j else 0)]) ?_ k n _ _ _ _ _ _ _ (by omega)
   ⟨rfl,rfl,rfl,rfl,0,rfl,by omega,by simp,by rw [bys_congr (u:=fun j => if j < 0 then dig v j else 0) (w:=fun _ => 0) fun i _ => if_neg (by omega)]⟩
  rintro r nx _ _ _ _ _ _ _ ⟨rfl,rfl,rfl,rfl,i,rfl,hr,rfl,rfl⟩ hnx
  unfold wire_Put_l0_b
  by_cases hi:(i:Int) < n
  ·have i1:inRange (i:Int) n = true:=inRange_yes (by omega) hi
   have ti:Int.toNat (i:Int) = i:=Int.toNat_natCast i
   have e1:Value.int .u8 (IntKind.wrap .u8 ((v / 256 ^ i:Nat):Int)) = .int .u8 ((dig v i).v:Int):=by rw [wrapN8,dig_v]
   have s1:=bys_st (sp:=none) (get_last (m:=m) (o:=.live (bys n fun j => if j < i then dig v j else 0)) rfl) (i:=i) (by omega) (dig v i)
   rw [wr_last rfl] at s1
   simp (disch:=omega) only [SX,plus,decide_eq_true hi,i1,ti,e1,s1]
   refine hnx (r - 1) _ _ _ _ _ _ _ (by omega) ⟨rfl,rfl,rfl,rfl,i + 1,by omega,by omega,?_,?_⟩
   ·rw [shr8,Nat.pow_succ,Nat.div_div_eq_div_mul]
   ·congr 3
    refine bys_congr fun j hj => ?_
    unfold put
    split
    ·rename_i h;subst h;rw [if_pos (by omega)]
    ·show (if j < i then dig v j else 0) = _
     by_cases h2:j < i
     ·rw [if_pos h2,if_pos (by omega)]
     ·rw [if_neg h2,if_neg (by omega)]
  ·obtain rfl:i = n:=by omega
   have h0:v / 256 ^ i = 0:=Nat.div_eq_of_lt hv
   have b0:(((0:Nat):Int) != 0) = false:=rfl
   simp only [decide_eq_false hi,cond_false,h0,b0]
   refine .some ?_
   rw [bys_congr (u:=fun j => if j < i then dig v j else 0) (w:=dig v) fun j hj => if_pos hj]
 obtain ⟨r,h2,rfl⟩:=key
 exact h2
structure TagT where
 place:Int
 of_:Int
 seq:Int
 copy:Int
 lost:Bool
def tagC (t:TagT):List Value:=[.int .i64 t.place,.int .i64 t.of_,.int .i64 t.seq,.int .i64 t.copy,.bool t.lost]
def TagT.ok (t:TagT):Prop:=0 ≤ t.place ∧ t.place < 96 ∧ 0 ≤ t.of_ ∧ t.of_ ≤ 24 ∧ 1 ≤ t.seq ∧ t.seq ≤ 1099511627775 ∧ 0 ≤ t.copy ∧ t.copy ≤ 255 ∧ (t.of_ = 24 → t.lost = false) ∧ (t.of_ ≠ 24 → t.place % 8 < 6)
def ztag:TagT:=⟨0,0,0,0,false⟩
def tagW (t:TagT) (i:Nat):GF :=
 if i < 2 then dig t.place.toNat i else if i < 3 then dig t.of_.toNat (i - 2) else if i < 8 then dig t.seq.toNat (i - 3) else if i < 9 then dig t.copy.toNat (i - 8) else if i < 10 then dig (if t.lost then 1 else 0) (i - 9) else 0
open Classical in
theorem check_is (k:Nat) (t:TagT) (m:Mem):tag_Check k (tagC t) m = some (if t.ok then .nilIface else errC 1,m ++ [.live (tagC t)]):=by
 unfold tag_Check
 have L5:Nat.beq (tagC t).length 5 = true:=rfl
 have h:=get_last (m:=m) (o:=.live (tagC t)) rfl
 have l0:ldInt .i64 (m ++ [.live (tagC t)]) ⟨m.length,0,none⟩ = some t.place:=ldInt_of h rfl
 have l1:ldInt .i64 (m ++ [.live (tagC t)]) ⟨m.length,1,none⟩ = some t.of_:=ldInt_of h rfl
 have l2:ldInt .i64 (m ++ [.live (tagC t)]) ⟨m.length,2,none⟩ = some t.seq:=ldInt_of h rfl
 have l3:ldInt .i64 (m ++ [.live (tagC t)]) ⟨m.length,3,none⟩ = some t.copy:=ldInt_of h rfl
 have l4:ldBool (m ++ [.live (tagC t)]) ⟨m.length,4,none⟩ = some t.lost:=ldBool_of h rfl
 generalize m ++ [.live (tagC t)] = M at *
 simp only [L5,cond_true,plus,Nat.zero_add,l0,l1,l2,l3,l4,Option.bind_some]
 have bad:∀ (P:Prop),P → (P → ¬ t.ok) → some ((Value.iface ty_api_Code (.int .i64 1)),M) = some (if t.ok then Value.nilIface else errC 1,M):=fun P hP hn => by rw [if_neg (hn hP)];rfl
 by_cases h0:t.place < 0
 ·rw [decide_eq_true h0];exact bad _ h0 fun h1 h2 => by have:=h2.1;omega
 rw [decide_eq_false h0,cond_false]
 by_cases h1:t.place ≥ 96
 ·rw [decide_eq_true h1];exact bad _ h1 fun h1 h2 => by have:=h2.2.1;omega
 rw [decide_eq_false h1,cond_false]
 by_cases h2:t.of_ < 0
 ·rw [decide_eq_true h2];exact bad _ h2 fun h1 h2 => by have:=h2.2.2.1;omega
 rw [decide_eq_false h2,cond_false]
 by_cases h3:t.of_ > 24
 ·rw [decide_eq_true h3];exact bad _ h3 fun h1 h2 => by have:=h2.2.2.2.1;omega
 rw [decide_eq_false h3,cond_false]
 by_cases h4:t.seq < 1
 ·rw [decide_eq_true h4];exact bad _ h4 fun h1 h2 => by have:=h2.2.2.2.2.1;omega
 rw [decide_eq_false h4,cond_false]
 by_cases h5:t.seq > 1099511627775
 ·rw [decide_eq_true h5];exact bad _ h5 fun h1 h2 => by have:=h2.2.2.2.2.2.1;omega
 rw [decide_eq_false h5,cond_false]
 by_cases h6:t.copy < 0
 ·rw [decide_eq_true h6];exact bad _ h6 fun h1 h2 => by have:=h2.2.2.2.2.2.2.1;omega
 rw [decide_eq_false h6,cond_false]
 by_cases h7:t.copy > 255
 ·rw [decide_eq_true h7];exact bad _ h7 fun h1 h2 => by have:=h2.2.2.2.2.2.2.2.1;omega
 rw [decide_eq_false h7,cond_false]
 by_cases h8:t.of_ = 24
 ·rw [h8]
  have b1:((24:Int) == 24) = true:=rfl
  have b2:((24:Int) != 24) = false:=rfl
  rw [b1,b2,cond_true,cond_false]
  cases hl:t.lost with
  | true => rw [cond_true];exact bad _ hl fun h1 h2 => by have:=h2.2.2.2.2.2.2.2.2.1 h8;rw [h1] at this;cases this
  | false =>
   rw [cond_false]
   unfold tag_Check_j1
   rw [if_pos ⟨by omega,by omega,by omega,by omega,by omega,by omega,by omega,by omega,fun _ => hl,fun h => absurd h8 h⟩]
 ·have b1:(t.of_ == 24) = false:=by rw [beq_eq_false_iff_ne];exact h8
  have b2:(t.of_ != 24) = true:=by unfold bne;rw [b1];rfl
  rw [b1,b2,cond_true,cond_false,tmod_pos (by omega)]
  by_cases h9:t.place % 8 ≥ 6
  ·rw [decide_eq_true h9];exact bad _ h9 fun h1 h2 => by have:=h2.2.2.2.2.2.2.2.2.2 h8;omega
  ·rw [decide_eq_false h9,cond_false]
   unfold tag_Check_j1
   rw [if_pos ⟨by omega,by omega,by omega,by omega,by omega,by omega,by omega,by omega,fun h => absurd h h8,fun _ => by omega⟩]
structure Wt (m0 M:Mem) (wo:Nat) (t:TagT) (n:Nat):Prop where
 gr:Gr m0 M
 wo_:∃ a,M[wo]? = some (.live (tagC t ++ [.slice a n n])) ∧ m0.length ≤ wo ∧ ((a = none ∧ n = 0) ∨ ∃ q,a = some ⟨q,0,some 1⟩ ∧ q ≠ wo ∧ m0.length ≤ q ∧ M[q]? = some (.live (bys n (tagW t))))
theorem putW (k:Nat) (hk:10 < k) {m0 M:Mem} {wo:Nat} {t:TagT} {n:Nat} (h:Wt m0 M wo t n) {v:Int} {l:Nat} (h1:1 ≤ l) (h8:l ≤ 8) (hn:n < 100) (hv0:0 ≤ v) (hv:v.toNat < 256 ^ l) (hv2:v < 18446744073709551616) (hw:∀ i,i < l → dig v.toNat i = tagW t (n + i)) {F:Nat} {fs:List Value} (hF:M[F]? = some (.live fs)) (hFw:F ≠ wo) (hFl:fs.length ≠ n) :
 ∃ M',tag_writer_put k (some ⟨wo,0,none⟩) v (l:Int) M = some (.nilIface,M') ∧ Wt m0 M' wo t (n + l) ∧ M'[F]? = some (.live fs):=by
 obtain ⟨a,w1,w2,w3⟩:=h.wo_
 have ev:((v.toNat:Nat):Int) = v:=Int.toNat_of_nonneg hv0
 have wr0:IntKind.wrap .u64 v = ((v.toNat:Nat):Int):=by
  unfold IntKind.wrap
  simp only [IntKind.bits,IntKind.signed,Bool.false_and,Bool.false_eq_true,if_false]
  rw [ev]
  exact Int.emod_eq_of_lt hv0 hv2
 have e1:=put_is k hk M v.toNat l h1 h8 hv
 have g1:Gr M (M ++ [.live (bys l (dig v.toNat))]):=Gr.app _ _
 have r1:rdSl (M ++ [.live (bys l (dig v.toNat))]) (some ⟨M.length,0,none⟩) l 1 = some (bys l (dig v.toNat)):=rdSl_all (get_last rfl) (by rw [bys_len,Nat.mul_one])
 have ws:=get_grow (g:=[MObj.live (bys l (dig v.toNat))]) w1
 have s1:ldSl (M ++ [.live (bys l (dig v.toNat))]) ⟨wo,5,none⟩ = some ⟨a,n,n⟩:=ldSl_of ws rfl
 have l1:(M ++ [MObj.live (bys l (dig v.toNat))]).length = M.length + 1:=by simp
 have wlt:=get_lt w1
 obtain ⟨M3,a1,a2,a3,a4,a5⟩:=appM_any (z:=1) (y:=1) (m:=M ++ [.live (bys l (dig v.toNat))]) (a:=a) (n:=n) (l:=l) (old:=bys n (tagW t)) (new:=bys l (dig v.toNat)) (by
  rcases w3 with ⟨q1,q2⟩ | ⟨q,q1,_,_,q2⟩
  ·refine .inl ⟨q1,q2,?_⟩
   subst q2;rfl
  ·exact .inr ⟨q,q1,get_grow q2,by rw [bys_len,Nat.mul_one]⟩) (by omega) (by unfold most;omega) (by unfold most;omega)
 have qne:∀ b,a = some ⟨b,0,some 1⟩ → wo ≠ b:=fun b hb he => by
  rcases w3 with ⟨q1,_⟩ | ⟨q,q1,q3,_,_⟩
  ·rw [q1] at hb;cases hb
  ·rw [q1] at hb;simp only [Option.some.injEq,Addr.mk.injEq,and_true] at hb;omega
 have qge:∀ b,a = some ⟨b,0,some 1⟩ → m0.length ≤ b:=fun b hb => by
  rcases w3 with ⟨q1,_⟩ | ⟨q,q1,_,q3,_⟩
  ·rw [q1] at hb;cases hb
  ·rw [q1] at hb;simp only [Option.some.injEq,Addr.mk.injEq,and_true] at hb;omega
 rw [l1] at a1 a2 a3
 have w4:M3[wo]? = some (.live (tagC t ++ [.slice a n n])):=by rw [a4 wo (by omega) qne];exact ws
 have st1:=st_wr (sp:=none) (off:=5) (v:=.slice (some ⟨M.length + 1,0,some 1⟩) (n + l) (n + l)) w4 (by simp [tagC])
 have hs:(tagC t ++ [Value.slice a n n]).set 5 (.slice (some ⟨M.length + 1,0,some 1⟩) (n + l) (n + l)) = tagC t ++ [.slice (some ⟨M.length + 1,0,some 1⟩) (n + l) (n + l)]:=rfl
 rw [hs] at st1
 have ml:=h.gr.len
 refine ⟨wr M3 wo (tagC t ++ [.slice (some ⟨M.length + 1,0,some 1⟩) (n + l) (n + l)]),?_,⟨((a5 m0 (h.gr.trans g1) qge).wr w2 _),_,wr_get w4,w2,.inr ⟨M.length + 1,rfl,by omega,by omega,?_⟩⟩,?_⟩
 ·unfold tag_writer_put
  rw [wr0,e1]
  simp only [Option.bind_some,plus,Nat.zero_add,s1,r1,a1,st1]
 ·rw [wr_ne (by omega),a3,bys_append]
  rw [bys_congr fun i hi => ?_]
  by_cases h2:i < n
  ·rw [if_pos h2]
  ·rw [if_neg h2,hw (i - n) (by omega)];congr 1;omega
 ·have:=get_lt hF
  rw [wr_ne (Ne.symm hFw),a4 F (by omega) fun b hb he => ?_]
  ·exact get_grow hF
  ·rcases w3 with ⟨q1,_⟩ | ⟨q,q1,q3,_,q4⟩
   ·rw [q1] at hb;cases hb
   ·rw [q1] at hb;simp only [Option.some.injEq,Addr.mk.injEq,and_true] at hb
    subst hb;subst he
    rw [hF] at q4;cases q4
    rw [bys_len] at hFl;exact hFl rfl
theorem tagEnc_no (k:Nat) {t:TagT} (h:¬ t.ok) (m:Mem):Ok (tag_Encode k (tagC t) m) fun r => r.1 = ⟨none,0,0⟩ ∧ r.2.1 = errC 1 ∧ Gr m r.2.2:=by
 unfold tag_Encode
 have L5:Nat.beq (tagC t).length 5 = true:=rfl
 have c1:ldCells (m ++ [.live (tagC t)]) ⟨m.length,0,none⟩ 5 = some (tagC t):=by rw [ldCells_of (off:=0) (n:=5) (get_last rfl) (Nat.le_refl _)];rfl
 have n1:isNil (errC 1) = some false:=rfl
 simp only [L5,cond_true,c1,Option.bind_some,check_is,if_neg h,n1,Bool.not_false]
 exact .some ⟨rfl,rfl,(Gr.app _ _).trans (Gr.app _ _)⟩
theorem tagW_tail (t:TagT) {i:Nat} (h:10 ≤ i):tagW t i = 0:=by
 unfold tagW
 rw [if_neg (by omega),if_neg (by omega),if_neg (by omega),if_neg (by omega),if_neg (by omega)]
theorem tagEnc_ok (k:Nat) (hk:100 < k) {t:TagT} (h:t.ok) (m:Mem):Ok (tag_Encode k (tagC t) m) fun r => ∃ q,r.1 = ⟨some ⟨q,0,some 1⟩,50,50⟩ ∧ r.2.1 = .nilIface ∧ Gr m r.2.2 ∧ m.length ≤ q ∧ r.2.2[q]? = some (.live (bys 50 (tagW t))):=by
 unfold tag_Encode
 have L5:Nat.beq (tagC t).length 5 = true:=rfl
 have c1:ldCells (m ++ [.live (tagC t)]) ⟨m.length,0,none⟩ 5 = some (tagC t):=by rw [ldCells_of (off:=0) (n:=5) (get_last rfl) (Nat.le_refl _)];rfl
 have n1:isNil .nilIface = some true:=rfl
 have c2:ldCells (m ++ [.live (tagC t)] ++ [.live (tagC t)]) ⟨m.length,0,none⟩ 5 = some (tagC t):=by rw [ldCells_of (off:=0) (n:=5) (get_grow (get_last rfl)) (Nat.le_refl _)];rfl
 have pu:putAt [.int .i64 0,.int .i64 0,.int .i64 0,.int .i64 0,.bool false,.slice none 0 0] 0 5 (tagC t) = tagC t ++ [.slice none 0 0]:=rfl
 have L6:Nat.beq (tagC t ++ [Value.slice none 0 0]).length 6 = true:=rfl
 simp only [L5,cond_true,c1,Option.bind_some,check_is,if_pos h,n1,Bool.not_true,cond_false,c2,pu,L6]
 have g0:Gr m (m ++ [.live (tagC t)] ++ [.live (tagC t)]):=(Gr.app _ _).trans (Gr.app _ _)
 generalize m ++ [.live (tagC t)] ++ [.live (tagC t)] = m0 at *
 have hW:Wt m0 (m0 ++ [.live (tagC t ++ [.slice none 0 0])]) m0.length t 0:=⟨Gr.app _ _,none,get_last rfl,Nat.le_refl _,.inl ⟨rfl,rfl⟩⟩
 have l6:(m0 ++ [MObj.live (tagC t ++ [.slice none 0 0])]).length = m0.length + 1:=by simp
 rw [l6]
 obtain ⟨fs,hfs⟩:∃ fs:List Value,fs = [(Value.func (Fn.func 78) ⟨[(Value.pointer (some ⟨m0.length,0,none⟩))]⟩ ⟨[]⟩),(Value.func (Fn.func 79) ⟨[(Value.pointer (some ⟨m0.length,0,none⟩))]⟩ ⟨[]⟩),(Value.func (Fn.func 80) ⟨[(Value.pointer (some ⟨m0.length,0,none⟩))]⟩ ⟨[]⟩),(Value.func (Fn.func 81) ⟨[(Value.pointer (some ⟨m0.length,0,none⟩))]⟩ ⟨[]⟩),(Value.func (Fn.func 82) ⟨[(Value.pointer (some ⟨m0.length,0,none⟩))]⟩ ⟨[]⟩)]:=⟨_,rfl⟩
 rw [← hfs]
 have hW:Wt m0 (m0 ++ [.live (tagC t ++ [.slice none 0 0])] ++ [.live fs]) m0.length t 0:=⟨(Gr.app _ _).trans (Gr.app _ _),none,get_grow (get_last rfl),Nat.le_refl _,.inl ⟨rfl,rfl⟩⟩
 have hF:(m0 ++ [.live (tagC t ++ [.slice none 0 0])] ++ [.live fs])[m0.length + 1]? = some (.live fs):=get_last l6
 have fl:fs.length = 5:=by rw [hfs];rfl
 let Lj:Nat → Nat:=fun j => if j = 0 then 0 else if j = 1 then 2 else if j = 2 then 3 else if j = 3 then 8 else if j = 4 then 9 else 10
 refine tag_Encode_l0_rule k _ _ (fun d x5 x27a x27n x27c x28 x29 M' => (⟨m0.length,0,none⟩:Addr) = x5 ∧ (some ⟨m0.length + 1,0,none⟩:Option Addr) = x27a ∧ 5 = x27n ∧ 5 = x27c ∧ (5:Int) = x28 ∧ ∃ j:Nat,x29 = j ∧ j + d = 5 ∧ Wt m0 M' m0.length t (Lj j) ∧ M'[m0.length + 1]? = some (.live fs)) ?_ k 5 _ _ _ _ _ _ _ (by omega)
  ⟨rfl,rfl,rfl,rfl,rfl,0,rfl,rfl,hW,hF⟩
 rintro d nx _ _ _ _ _ _ M ⟨rfl,rfl,rfl,rfl,rfl,j,rfl,hd,hW,hF⟩ hnx
 unfold tag_Encode_l0_b
 obtain ⟨o1,o2,o3,o4,o5,o6,o7,o8,o9,o10⟩:=h
 obtain ⟨a,w1,w2,w3⟩:=hW.wo_
 have p0:ldInt .i64 M ⟨m0.length,0,none⟩ = some t.place:=ldInt_of w1 rfl
 have p1:ldInt .i64 M ⟨m0.length,1,none⟩ = some t.of_:=ldInt_of w1 rfl
 have p2:ldInt .i64 M ⟨m0.length,2,none⟩ = some t.seq:=ldInt_of w1 rfl
 have p3:ldInt .i64 M ⟨m0.length,3,none⟩ = some t.copy:=ldInt_of w1 rfl
 have p4:ldBool M ⟨m0.length,4,none⟩ = some t.lost:=ldBool_of w1 rfl
 by_cases hj:(j:Int) < 5
 ·have tj:Int.toNat (j:Int) = j:=Int.toNat_natCast j
  have i1:inRange (j:Int) 5 = true:=inRange_yes (by omega) hj
  have hj':j = 0 ∨ j = 1 ∨ j = 2 ∨ j = 3 ∨ j = 4:=by omega
  have fin:∀ (f:Nat) (M2:Mem),ldVal M ⟨m0.length + 1,j,none⟩ = some (Value.func (Fn.func f) ⟨[(Value.pointer (some ⟨m0.length,0,none⟩))]⟩ ⟨[]⟩) → (∀ K:Value → Mem → Option (Sl × Value × Mem),callV (tag_Encode_call k) (Value.func (Fn.func f) ⟨[(Value.pointer (some ⟨m0.length,0,none⟩))]⟩ ⟨[]⟩) [] M K = K .nilIface M2) → Wt m0 M2 m0.length t (Lj (j + 1)) → M2[m0.length + 1]? = some (.live fs) →
   Ok (tag_Encode_l0_b k nx (fun y2a y2n y2c y3 m13 => some ((⟨y2a,y2n,y2c⟩:Sl),y3,m13)) (fun y5 m14 => (ldSl m14 (plus y5 5)).bind fun t15 => (ldSl m14 (plus y5 5)).bind fun t16 => bif decide (0 < IntKind.wrap .i64 (50 - ((t16.len:Nat):Int))) && decide (IntKind.wrap .i64 (50 - ((t16.len:Nat):Int)) ≤ 1000000) then ((appM 1 1 m14 t15.a t15.len t15.cap (Int.toNat (IntKind.wrap .i64 (50 - ((t16.len:Nat):Int)))) (repl (Int.toNat (IntKind.wrap .i64 (50 - ((t16.len:Nat):Int)))) [.int .u8 0])).bind fun r18 => some ((⟨r18.1.a,r18.1.len,r18.1.cap⟩:Sl),Value.nilIface,r18.2)) else none) ⟨m0.length,0,none⟩ (some ⟨m0.length + 1,0,none⟩) 5 5 5 (j:Int) M) fun r => ∃ q,r.1 = ⟨some ⟨q,0,some 1⟩,50,50⟩ ∧ r.2.1 = .nilIface ∧ Gr m r.2.2 ∧ m.length ≤ q ∧ r.2.2[q]? = some (.live (bys 50 (tagW t))):=by
   intro f M2 e1 e2 e3 e4
   unfold tag_Encode_l0_b
   simp (disch:=omega) only [SX,plus,decide_eq_true hj,i1,tj,e1,e2,n1]
   exact hnx (d - 1) _ _ _ _ _ _ _ (by omega) ⟨rfl,rfl,rfl,rfl,rfl,j + 1,by omega,by omega,e3,e4⟩
  have gF:∀ (i:Nat) v,fs[i]? = some v → ldVal M ⟨m0.length + 1,i,none⟩ = some v:=fun i v hv => ldVal_of hF hv
  unfold tag_Encode_l0_b at fin
  rcases hj' with rfl | rfl | rfl | rfl | rfl
  ·obtain ⟨M2,b1,b2,b3⟩:=putW k (by omega) hW (v:=t.place) (l:=2) (by omega) (by omega) (by show (0:Nat) < 100;omega) o1 (by omega) (by omega) (fun i hi => by show _ = tagW t (0 + i);rw [Nat.zero_add];unfold tagW;rw [if_pos hi]) hF (by omega) (by rw [fl];show 5 ≠ 0;omega)
   refine fin _ M2 (gF 0 _ (by rw [hfs];rfl)) (fun K => ?_) b2 b3
   show (tag_writer_place k (some ⟨m0.length,0,none⟩) M).bind (fun r => K r.1 r.2) = _
   unfold tag_writer_place
   simp only [Option.bind_some,plus,Nat.zero_add,Nat.add_zero,p0]
   rw [show tag_writer_put k (some ⟨m0.length,0,none⟩) t.place 2 M = _ from b1];rfl
  ·obtain ⟨M2,b1,b2,b3⟩:=putW k (by omega) hW (v:=t.of_) (l:=1) (by omega) (by omega) (by show (2:Nat) < 100;omega) o3 (by omega) (by omega) (fun i hi => by show _ = tagW t (2 + i);unfold tagW;rw [if_neg (by omega),if_pos (by omega)];congr 1;omega) hF (by omega) (by rw [fl];show 5 ≠ 2;omega)
   refine fin _ M2 (gF 1 _ (by rw [hfs];rfl)) (fun K => ?_) b2 b3
   show (tag_writer_of k (some ⟨m0.length,0,none⟩) M).bind (fun r => K r.1 r.2) = _
   unfold tag_writer_of
   simp only [Option.bind_some,plus,Nat.zero_add,Nat.add_zero,p1]
   rw [show tag_writer_put k (some ⟨m0.length,0,none⟩) t.of_ 1 M = _ from b1];rfl
  ·obtain ⟨M2,b1,b2,b3⟩:=putW k (by omega) hW (v:=t.seq) (l:=5) (by omega) (by omega) (by show (3:Nat) < 100;omega) (by omega) (by omega) (by omega) (fun i hi => by show _ = tagW t (3 + i);unfold tagW;rw [if_neg (by omega),if_neg (by omega),if_pos (by omega)];congr 1;omega) hF (by omega) (by rw [fl];show 5 ≠ 3;omega)
   refine fin _ M2 (gF 2 _ (by rw [hfs];rfl)) (fun K => ?_) b2 b3
   show (tag_writer_seq k (some ⟨m0.length,0,none⟩) M).bind (fun r => K r.1 r.2) = _
   unfold tag_writer_seq
   simp only [Option.bind_some,plus,Nat.zero_add,Nat.add_zero,p2]
   rw [show tag_writer_put k (some ⟨m0.length,0,none⟩) t.seq 5 M = _ from b1];rfl
  ·obtain ⟨M2,b1,b2,b3⟩:=putW k (by omega) hW (v:=t.copy) (l:=1) (by omega) (by omega) (by show (8:Nat) < 100;omega) o7 (by omega) (by omega) (fun i hi => by show _ = tagW t (8 + i);unfold tagW;rw [if_neg (by omega),if_neg (by omega),if_neg (by omega),if_pos (by omega)];congr 1;omega) hF (by omega) (by rw [fl];show 5 ≠ 8;omega)
   refine fin _ M2 (gF 3 _ (by rw [hfs];rfl)) (fun K => ?_) b2 b3
   show (tag_writer_copies k (some ⟨m0.length,0,none⟩) M).bind (fun r => K r.1 r.2) = _
   unfold tag_writer_copies
   simp only [Option.bind_some,plus,Nat.zero_add,Nat.add_zero,p3]
   rw [show tag_writer_put k (some ⟨m0.length,0,none⟩) t.copy 1 M = _ from b1];rfl
  ·have hw9:∀ i,i < 1 → dig (Int.toNat (if t.lost = true then 1 else 0)) i = tagW t (Lj 4 + i):=by
    intro i hi
    show _ = tagW t (9 + i)
    unfold tagW
    rw [if_neg (show ¬ 9 + i < 2 by omega),if_neg (show ¬ 9 + i < 3 by omega),if_neg (show ¬ 9 + i < 8 by omega),if_neg (show ¬ 9 + i < 9 by omega),if_pos (show 9 + i < 10 by omega),show 9 + i - 9 = i by omega]
    cases t.lost <;> rfl
   obtain ⟨M2,b1,b2,b3⟩:=putW k (by omega) hW (v:=if t.lost = true then 1 else 0) (l:=1) (by omega) (by omega) (by show (9:Nat) < 100;omega) (by split <;> omega) (by split <;> decide) (by split <;> omega) hw9 hF (by omega) (by rw [fl];show 5 ≠ 9;omega)
   refine fin _ M2 (gF 4 _ (by rw [hfs];rfl)) (fun K => ?_) b2 b3
   show (tag_writer_lost k (some ⟨m0.length,0,none⟩) M).bind (fun r => K r.1 r.2) = _
   unfold tag_writer_lost
   simp only [Option.bind_some,plus,Nat.zero_add,Nat.add_zero,p4]
   cases hl:t.lost with
   | true =>
    rw [hl] at b1
    rw [cond_true,show tag_writer_put k (some ⟨m0.length,0,none⟩) 1 1 M = _ from b1];rfl
   | false =>
    rw [hl] at b1
    rw [cond_false,show tag_writer_put k (some ⟨m0.length,0,none⟩) 0 1 M = _ from b1];rfl
 ·clear hnx
  obtain rfl:j = 5:=by omega
  have w1:M[m0.length]? = some (.live (tagC t ++ [.slice a 10 10])):=w1
  rcases w3 with ⟨_,q1⟩ | ⟨q,rfl,q2,q3,q4⟩
  ·exact absurd q1 (by show ¬ (10:Nat) = 0;omega)
  have q4:M[q]? = some (.live (bys 10 (tagW t))):=q4
  have s1:ldSl M ⟨m0.length,5,none⟩ = some ⟨some ⟨q,0,some 1⟩,10,10⟩:=ldSl_of w1 rfl
  have w40:IntKind.wrap .i64 (50 - ((10:Nat):Int)) = 40:=rfl
  have t40:Int.toNat 40 = 40:=rfl
  obtain ⟨M3,a1,a2,a3,a4,a5⟩:=appM_any (z:=1) (y:=1) (m:=M) (a:=some ⟨q,0,some 1⟩) (n:=10) (l:=40) (old:=bys 10 (tagW t)) (new:=bys 40 fun _ => 0) (.inr ⟨q,rfl,q4,by rw [bys_len]⟩) (by omega) (by unfold most;omega) (by unfold most;omega)
  have d5:decide (((5:Nat):Int) < 5) = false:=rfl
  have c40:(decide ((0:Int) < 40) && decide ((40:Int) ≤ 1000000)) = true:=rfl
  simp only [d5,cond_false,plus,Nat.zero_add,s1,Option.bind_some,w40,t40,bys_zero,a1,c40,cond_true]
  have ml:=g0.len
  have mm:=hW.gr.len
  refine .some ⟨M.length,rfl,rfl,g0.trans (a5 m0 hW.gr fun b hb => by cases hb;exact q3),by omega,?_⟩
  rw [a3,bys_append,bys_congr fun i hi => ?_]
  by_cases h2:i < 10
  ·rw [if_pos h2]
  ·rw [if_neg h2,tagW_tail t (by omega)]
end Go.Proofs.YtchonnaoojpdoaaGreat
set_option linter.unusedVariables false
set_option linter.unusedSectionVars false
set_option linter.unusedSimpArgs false
namespace Go.Proofs.YtchonnaoojpdoaaGreat
open Go.Mx
def getV (w:Nat → GF):Nat → Nat
 | 0 => 0
 | n + 1 => getV w n + (w n).v * 256 ^ n
theorem getV_lt (w:Nat → GF):∀ n,getV w n < 256 ^ n
 | 0 => by show 0 < 1;omega
 | n + 1 => by
  have h1:=getV_lt w n
  have h2:=GF.v_lt (w n)
  show getV w n + (w n).v * 256 ^ n < 256 ^ (n + 1)
  rw [Nat.pow_succ]
  have:(w n).v * 256 ^ n ≤ 255 * 256 ^ n:=Nat.mul_le_mul_right _ (by omega)
  omega
theorem orN {X c s:Nat} (hX:X < 2 ^ s) (hc:c < 256) (hs:s + 8 ≤ 64):bitI .or .u64 (X:Int) (shlI .u64 (c:Int) (s:Int)) = ((X + c * 2 ^ s:Nat):Int):=by
 have hcs:c * 2 ^ s < 2 ^ 64:=by
  have h1:c * 2 ^ s < 256 * 2 ^ s:=Nat.mul_lt_mul_of_pos_right hc (Nat.two_pow_pos s)
  have h2:256 * 2 ^ s = 2 ^ (s + 8):=by rw [Nat.pow_add];omega
  have h3:2 ^ (s + 8) ≤ 2 ^ 64:=Nat.pow_le_pow_right (by omega) hs
  omega
 have hX2:X < 2 ^ 64:=Nat.lt_of_lt_of_le hX (Nat.pow_le_pow_right (by omega) (by omega))
 have e1:shlI .u64 (c:Int) (s:Int) = ((c * 2 ^ s:Nat):Int):=by
  unfold shlI
  have:min (Int.toNat (s:Int)) (IntKind.bits .u64) = s:=by rw [Int.toNat_natCast];exact Nat.min_eq_left (by show s ≤ 64;omega)
  rw [this]
  unfold IntKind.wrap
  simp only [IntKind.bits,IntKind.signed,Bool.false_and,Bool.false_eq_true,if_false]
  rw [show (c:Int) * 2 ^ s = ((c * 2 ^ s:Nat):Int) by push_cast;rfl]
  omega
 rw [e1]
 unfold bitI
 simp only
 rw [BitVec.ofInt_natCast,BitVec.ofInt_natCast,BitVec.toNat_or,BitVec.toNat_ofNat,BitVec.toNat_ofNat]
 have b64:IntKind.bits .u64 = 64:=rfl
 rw [b64,Nat.mod_eq_of_lt hX2,Nat.mod_eq_of_lt hcs,Nat.or_comm]
 have:=Nat.shiftLeft_add_eq_or_of_lt hX c
 rw [Nat.shiftLeft_eq] at this
 rw [← this]
 unfold IntKind.wrap
 simp only [IntKind.bits,IntKind.signed,Bool.false_and,Bool.false_eq_true,if_false]
 have h4:c * 2 ^ s + X < 2 ^ 64:=by
  have h1:(c + 1) * 2 ^ s ≤ 256 * 2 ^ s:=Nat.mul_le_mul_right _ (by omega)
  have h2:256 * 2 ^ s = 2 ^ (s + 8):=by rw [Nat.pow_add];omega
  have h3:2 ^ (s + 8) ≤ 2 ^ 64:=Nat.pow_le_pow_right (by omega) hs
  rw [Nat.add_mul] at h1
  omega
 omega
theorem get_is (k:Nat) (hk:10 < k) {m:Mem} {a:Option Addr} {n c:Nat} {w:Nat → GF} (hw:Src m a n w) (h1:1 ≤ n) (h8:n ≤ 8):wire_Get k a n c m = some (((getV w n:Nat):Int),.nilIface,m):=by
 have key:Ok (wire_Get k a n c m) fun r => r = (((getV w n:Nat):Int),.nilIface,m):=by
  unfold wire_Get
  rw [decide_eq_false (by omega),decide_eq_false (by omega),cond_false,cond_false]
  refine wire_Get_l0_rule k _ (fun r x4 x16a x16n x16c x17 x18 m' => a = x16a ∧ n = x16n ∧ c = x16c ∧ (n:Int) = x17 ∧ m = m' ∧ ∃ i:Nat,x18 = i ∧ i + r = n ∧ x4 = ((getV w i:Nat):Int)) ?_ k n _ _ _ _ _ _ _ (by omega)
   ⟨rfl,rfl,rfl,rfl,rfl,0,rfl,by omega,rfl⟩
  rintro r nx _ _ _ _ _ _ _ ⟨rfl,rfl,rfl,rfl,rfl,i,rfl,hr,rfl⟩ hnx
  unfold wire_Get_l0_b
  by_cases hi:(i:Int) < n
  ·obtain ⟨ad,rfl,e1⟩:=hw.ld (i:=i) (by omega)
   have i1:inRange (i:Int) n = true:=inRange_yes (by omega) hi
   have ti:Int.toNat (i:Int) = i:=Int.toNat_natCast i
   have w8:IntKind.wrap .i64 (8 * (i:Int)) = ((8 * i:Nat):Int):=by rw [wrap_i64 (by omega) (by omega)];push_cast;rfl
   have vl:=GF.v_lt (w i)
   have w64:IntKind.wrap .u64 ((w i).v:Int) = ((w i).v:Int):=by
    unfold IntKind.wrap
    simp only [IntKind.bits,IntKind.signed,Bool.false_and,Bool.false_eq_true,if_false]
    omega
   have p8:2 ^ (8 * i) = 256 ^ i:=by rw [Nat.pow_mul]
   have or1:=orN (X:=getV w i) (c:=(w i).v) (s:=8 * i) (by rw [p8];exact getV_lt w i) vl (by omega)
   rw [p8] at or1
   have nn:decide (((8 * i:Nat):Int) < 0) = false:=decide_eq_false (by omega)
   simp only [decide_eq_true hi,cond_true,i1,Option.bind_some,ti,Nat.mul_one,e1,w8,nn,cond_false,w64,or1]
   exact hnx (r - 1) _ _ _ _ _ _ _ (by omega) ⟨rfl,rfl,rfl,rfl,rfl,i + 1,by rw [wrap_i64 (by omega) (by omega)];push_cast;rfl,by omega,rfl⟩
  ·obtain rfl:i = n:=by omega
   rw [decide_eq_false hi,cond_false]
   exact .some rfl
 obtain ⟨r,h2,rfl⟩:=key
 exact h2
theorem getV_dig (v:Nat) (w:Nat → GF):∀ n,(∀ i,i < n → w i = dig v i) → getV w n = v % 256 ^ n
 | 0,_ => by simp [getV,Nat.mod_one]
 | n + 1,h => by
  show getV w n + (w n).v * 256 ^ n = _
  rw [getV_dig v w n (fun i hi => h i (by omega)),h n (by omega),dig_v,Nat.pow_succ,Nat.mod_mul]
  rw [Nat.mul_comm]
theorem str_iff {n n':Nat} (u w:Nat → GF):strEq ⟨(((List.range n).map u).map fun g => UInt8.ofNat g.v).toArray⟩ ⟨(((List.range n').map w).map fun g => UInt8.ofNat g.v).toArray⟩ = true ↔ n = n' ∧ ∀ i,i < n → u i = w i:=by
 unfold strEq
 rw [ba_toList,ba_toList,beq_iff_eq]
 constructor
 ·intro h
  have hl:=congrArg List.length h
  simp only [List.length_map,List.length_range] at hl
  refine ⟨hl,fun i hi => ?_⟩
  have h1:=congrArg (fun l => l[i]?) h
  simp only [List.getElem?_map,List.getElem?_range hi,List.getElem?_range (show i < n' by omega),Option.map_some,Option.some.injEq] at h1
  have h2:=congrArg UInt8.toNat h1
  simp only [UInt8.toNat_ofNat'] at h2
  have a1:=GF.v_lt (u i)
  have a2:=GF.v_lt (w i)
  exact GF.v_inj (by omega)
 ·rintro ⟨rfl,h⟩
  have:(List.range n).map u = (List.range n).map w:=List.map_congr_left fun i hi => h i (List.mem_range.1 hi)
  show List.map _ _ = List.map _ _
  rw [this]
theorem bytesEq_is (k:Nat) {m:Mem} {a b:Option Addr} {n n' c c':Nat} {u w:Nat → GF} (ha:Src m a n u) (hb:Src m b n' w) (h0:0 < n) (h0':0 < n'):∃ z,bytes_Equal k a n c b n' c' m = some (z,m) ∧ (z = true ↔ n = n' ∧ ∀ i,i < n → u i = w i):=by
 refine ⟨_,?_,str_iff u w⟩
 unfold bytes_Equal
 rw [show rdSl m a n 1 = _ from ha,Option.bind_some,str_bys h0,Option.bind_some,show rdSl m b n' 1 = _ from hb,Option.bind_some,str_bys h0',Option.bind_some]
def tagP (w:Nat → GF):TagT:=⟨(getV w 2:Nat),((w 2).v:Int),(getV (fun i => w (3 + i)) 5:Nat),((w 8).v:Int),decide ((w 9).v = 1)⟩
open Classical in
noncomputable def tagD (w:Nat → GF):Option TagT:=if (tagP w).ok ∧ ∀ i,i < 50 → tagW (tagP w) i = w i then some (tagP w) else none
theorem tagP_self {t:TagT} (h:t.ok) {w:Nat → GF} (hw:∀ i,i < 50 → w i = tagW t i):tagP w = t:=by
 obtain ⟨o1,o2,o3,o4,o5,o6,o7,o8,o9,o10⟩:=h
 have e1:getV w 2 = t.place.toNat:=by
  rw [getV_dig t.place.toNat w 2 fun i hi => by rw [hw i (by omega)];unfold tagW;rw [if_pos hi]]
  exact Nat.mod_eq_of_lt (by show t.place.toNat < 65536;omega)
 have e2:(w 2).v = t.of_.toNat:=by
  rw [hw 2 (by omega)]
  show (dig t.of_.toNat 0).v = _
  rw [dig_v];show t.of_.toNat / 1 % 256 = _;omega
 have e3:getV (fun i => w (3 + i)) 5 = t.seq.toNat:=by
  rw [getV_dig t.seq.toNat _ 5 fun i hi => by
   show w (3 + i) = _
   rw [hw (3 + i) (by omega)];unfold tagW;rw [if_neg (by omega),if_neg (by omega),if_pos (by omega)];congr 1;omega]
  exact Nat.mod_eq_of_lt (by show t.seq.toNat < 1099511627776;omega)
 have e4:(w 8).v = t.copy.toNat:=by
  rw [hw 8 (by omega)]
  show (dig t.copy.toNat 0).v = _
  rw [dig_v];show t.copy.toNat / 1 % 256 = _;omega
 have e5:(w 9).v = if t.lost then 1 else 0:=by
  rw [hw 9 (by omega)]
  show (dig (if t.lost then 1 else 0) 0).v = _
  rw [dig_v];cases t.lost <;> rfl
 unfold tagP
 rw [e1,e2,e3,e4,e5]
 obtain ⟨p,o,s,c,l⟩:=t
 simp only at *
 rw [Int.toNat_of_nonneg o1,Int.toNat_of_nonneg o3,Int.toNat_of_nonneg (by omega),Int.toNat_of_nonneg o7]
 cases l <;> rfl
theorem tagD_self {t:TagT} (h:t.ok) {w:Nat → GF} (hw:∀ i,i < 50 → w i = tagW t i):tagD w = some t:=by
 unfold tagD
 rw [tagP_self h hw,if_pos ⟨h,fun i hi => (hw i hi).symm⟩]
theorem tagDec_ok (k:Nat) (hk:100 < k) {m:Mem} {ad:Addr} {c:Nat} {w:Nat → GF} (hw:Src m (some ad) 50 w) (hz:okS ad) (hc:50 ≤ c) :
 Ok (tag_Decode k (some ad) 50 c m) fun r => Gr m r.2.2 ∧ ((∃ t,tagD w = some t ∧ r.1 = tagC t ∧ r.2.1 = .nilIface) ∨ (tagD w = none ∧ r.1 = tagC ztag ∧ r.2.1 = errC 3)):=by
 unfold tag_Decode
 have b50:(((50:Nat):Int) != 50) = false:=rfl
 have hz0:([.int .i64 0,.int .i64 0,.int .i64 0,.int .i64 0,.bool false]:List Value) = tagC ztag:=rfl
 have g1:Gr m (m ++ [.live (tagC ztag)]):=Gr.app _ _
 have z1:(m ++ [MObj.live (tagC ztag)])[m.length]? = some (.live (tagC ztag)):=get_last rfl
 have u1:inUpto 2 c = true:=inUpto_yes (by omega) (by omega)
 have u2:inUpto 8 c = true:=inUpto_yes (by omega) (by omega)
 have u3:inUpto 3 (Int.toNat 8) = true:=rfl
 have oz:=hz.z
 have nn:isNil .nilIface = some true:=rfl
 have i2:inRange 2 50 = true:=rfl
 have i8:inRange 8 50 = true:=rfl
 have i9:inRange 9 50 = true:=rfl
 have s1:=hw.grow g1
 have s2:Src (m ++ [.live (tagC ztag)]) (some (plus ad 0)) 2 fun i => w (0 + i):=s1.part (by omega)
 have s2:Src (m ++ [.live (tagC ztag)]) (some ad) 2 w:=by
  have e:plus ad 0 = ad:=rfl
  rw [e] at s2
  simpa only [Nat.zero_add] using s2
 have s3:Src (m ++ [.live (tagC ztag)]) (some (plus ad 3)) 5 fun i => w (3 + i):=s1.part (by omega)
 have e1:=get_is k (by omega) (c:=c) s2 (by omega) (by omega)
 have e2:=get_is k (by omega) (c:=c - 3) s3 (by omega) (by omega)
 have ld:∀ (i:Nat),i < 50 → ∀ M,Gr (m ++ [.live (tagC ztag)]) M → ldInt .u8 M (plus ad i) = some ((w i).v:Int):=fun i hi M hg => by
  obtain ⟨ad',h1,h2⟩:=(s1.grow hg).ld hi
  cases h1;exact h2
 have l2:=ld 2 (by omega) _ (Gr.refl _)
 have l8:=ld 8 (by omega) _ (Gr.refl _)
 have l9:=ld 9 (by omega) _ (Gr.refl _)
 have gm1:Gr m (m ++ [MObj.live (tagC ztag)]):=Gr.app _ _
 generalize hM1:m ++ [MObj.live (tagC ztag)] = M1 at *
 have ml:M1.length = m.length + 1:=by rw [← hM1];simp
 have v0:=getV_lt w 2
 have v1:=getV_lt (fun i => w (3 + i)) 5
 have p2:(256:Nat) ^ 2 = 65536:=rfl
 have p5:(256:Nat) ^ 5 = 1099511627776:=rfl
 rw [p2] at v0;rw [p5] at v1
 have b2:=GF.v_lt (w 2)
 have b8:=GF.v_lt (w 8)
 have bo:(((w 9).v:Int) == 1) = decide ((w 9).v = 1):=by
  by_cases h:(w 9).v = 1
  ·rw [h];rfl
  ·rw [decide_eq_false h,beq_eq_false_iff_ne];omega
 have w0:IntKind.wrap .i64 ((getV w 2:Nat):Int) = ((getV w 2:Nat):Int):=wrap_i64 (by omega) (by omega)
 have w2:IntKind.wrap .i64 ((w 2).v:Int) = ((w 2).v:Int):=wrap_i64 (by omega) (by omega)
 have w8:IntKind.wrap .i64 ((w 8).v:Int) = ((w 8).v:Int):=wrap_i64 (by omega) (by omega)
 have w3:IntKind.wrap .i64 ((getV (fun i => w (3 + i)) 5:Nat):Int) = ((getV (fun i => w (3 + i)) 5:Nat):Int):=wrap_i64 (by omega) (by omega)
 have l2':=ld 2 (by omega) _ (Gr.app M1 [.live (tagC ztag)])
 have l8':=ld 8 (by omega) _ (Gr.app M1 [.live (tagC ztag)])
 have l9':=ld 9 (by omega) _ (Gr.app M1 [.live (tagC ztag)])
 have ht:([Value.int .i64 ((getV w 2:Nat):Int),.int .i64 ((w 2).v:Int),.int .i64 ((getV (fun i => w (3 + i)) 5:Nat):Int),.int .i64 ((w 8).v:Int),.bool (decide ((w 9).v = 1))]:List Value) = tagC (tagP w):=rfl
 have st1:stCells (M1 ++ [.live (tagC ztag)]) ⟨M1.length,0,none⟩ (tagC (tagP w)) = some (M1 ++ [.live (tagC (tagP w))]):=by rw [stCells_wr (get_last rfl) (Nat.le_refl _),wr_last rfl];rfl
 have c1:ldCells (M1 ++ [.live (tagC (tagP w))]) ⟨M1.length,0,none⟩ 5 = some (tagC (tagP w)):=by rw [ldCells_of (off:=0) (n:=5) (get_last rfl) (Nat.le_refl _)];rfl
 have t2:Int.toNat 2 = 2:=rfl
 have t3:Int.toNat 3 = 3:=rfl
 have t8:Int.toNat 8 = 8:=rfl
 have t9:Int.toNat 9 = 9:=rfl
 simp only [b50,cond_false,hz0,u1,u2,u3,oz,Bool.and_self,cond_true,clear_f,t2,t3,t8,t9,e1,Option.bind_some,nn,Bool.not_true,Option.map_some,Nat.mul_one,show 8 - 3 = 5 from rfl,e2,i2,i8,i9,l2,l8,l9,w0,w2,w3,w8,bo,ht,hM1,st1,l2',l8',l9',beq_self_eq_true,c1]
 have fin0:∀ M,Gr M1 M → ∃ M',stCells M ⟨m.length,0,none⟩ (tagC ztag) = some M' ∧ ldCells M' ⟨m.length,0,none⟩ 5 = some (tagC ztag) ∧ Gr m M':=fun M hg => by
  have z2:=hg.get z1
  refine ⟨_,stCells_wr z2 (Nat.le_refl _),?_,(gm1.trans hg).wr (Nat.le_refl _) _⟩
  rw [ldCells_of (off:=0) (n:=5) (wr_get z2) (Nat.le_refl _)];rfl
 by_cases hok:(tagP w).ok
 ·refine .bind (tagEnc_ok k hk hok _) ?_
  rintro ⟨_,_,M⟩ ⟨q,rfl,rfl,hg,hq1,hq2⟩
  simp only at hg hq2 ⊢
  have gM:Gr M1 M:=(Gr.app _ _).trans hg
  obtain ⟨z,f1,f2⟩:=bytesEq_is k (m:=M) (c:=50) (c':=c) (Src.of (sp:=some 1) hq2) (s1.grow gM) (by omega) (by omega)
  simp only [nn,Option.bind_some,Bool.not_true,cond_false,f1]
  cases z with
  | false =>
   obtain ⟨M',g1,g2,g3⟩:=fin0 M gM
   have hn:tagD w = none:=by
    unfold tagD
    rw [if_neg]
    rintro ⟨_,h⟩
    have:=f2.2 ⟨rfl,h⟩
    cases this
   simp only [Bool.not_false,cond_true,g1,Option.bind_some,g2]
   exact .some ⟨g3,.inr ⟨hn,rfl,rfl⟩⟩
  | true =>
   have hs:tagD w = some (tagP w):=by unfold tagD;rw [if_pos ⟨hok,(f2.1 rfl).2⟩]
   have x1:M[M1.length]? = some (.live (tagC (tagP w))):=hg.get (get_last rfl)
   have c2:ldCells M ⟨M1.length,0,none⟩ 5 = some (tagC (tagP w)):=by rw [ldCells_of (off:=0) (n:=5) x1 (Nat.le_refl _)];rfl
   have z2:=gM.get z1
   have st2:stCells M ⟨m.length,0,none⟩ (tagC (tagP w)) = some (wr M m.length (tagC (tagP w))):=stCells_wr z2 (Nat.le_refl _)
   have c3:ldCells (wr M m.length (tagC (tagP w))) ⟨m.length,0,none⟩ 5 = some (tagC (tagP w)):=by rw [ldCells_of (off:=0) (n:=5) (wr_get z2) (Nat.le_refl _)];rfl
   have L5:Nat.beq (tagC (tagP w)).length 5 = true:=rfl
   simp only [Bool.not_true,cond_false,c2,Option.bind_some,L5,cond_true,st2,c3]
   exact .some ⟨(gm1.trans gM).wr (Nat.le_refl _) _,.inl ⟨_,hs,rfl,rfl⟩⟩
 ·refine .bind (tagEnc_no k hok _) ?_
  rintro ⟨_,_,M⟩ ⟨rfl,rfl,hg⟩
  simp only at hg ⊢
  have gM:Gr M1 M:=(Gr.app _ _).trans hg
  obtain ⟨M',g1,g2,g3⟩:=fin0 M gM
  have n1:isNil (errC 1) = some false:=rfl
  have hn:tagD w = none:=by unfold tagD;rw [if_neg fun h => hok h.1]
  simp only [n1,Option.bind_some,Bool.not_false,cond_true,g1,g2]
  exact .some ⟨g3,.inr ⟨hn,rfl,rfl⟩⟩
end Go.Proofs.YtchonnaoojpdoaaGreat
set_option linter.unusedVariables false
set_option linter.unusedSectionVars false
set_option linter.unusedSimpArgs false
namespace Go.Proofs.YtchonnaoojpdoaaGreat
open Go.Mx
theorem tdivN (x y:Nat):Int.tdiv (x:Int) (y:Int) = ((x / y:Nat):Int):=by
 rw [Int.tdiv_eq_ediv_of_nonneg (by omega)];rfl
theorem wrapN64 {x:Nat} (h:x < 18446744073709551616):IntKind.wrap .u64 (x:Int) = (x:Int):=by
 unfold IntKind.wrap
 simp only [IntKind.bits,IntKind.signed,Bool.false_and,Bool.false_eq_true,if_false]
 omega
theorem put3_ok (k:Nat) (hk:10 < k) (m:Mem) (v n:Nat) (h1:1 ≤ n) (h8:n ≤ 8) (hv:v < 18446744073709551616) :
 Ok (patinaref03_Put k (v:Int) (n:Int) m) fun r => ∃ d,r.1 = ⟨some ⟨d,0,some 1⟩,n,n⟩ ∧ Gr m r.2.2 ∧ m.length ≤ d ∧ r.2.2[d]? = some (.live (bys n (dig v))):=by
 unfold patinaref03_Put
 refine patinaref03_Put_l0_rule k _ (fun r x0 x1 x6a x6n x6c x7 M => (n:Int) = x1 ∧ ∃ i:Nat,x7 = i ∧ i + r = n ∧ x0 = ((v / 256 ^ i:Nat):Int) ∧ i = x6n ∧ i = x6c ∧ Gr m M ∧ Ac m.length M x6a i (dig v)) ?_ k n _ _ _ _ _ _ _ (by omega)
  ⟨rfl,0,rfl,by omega,by simp,rfl,rfl,Gr.refl _,Ac.nil _ _ _⟩
 rintro r nx _ _ a _ _ _ M ⟨rfl,i,rfl,hr,rfl,rfl,rfl,hg,hA⟩ hnx
 unfold patinaref03_Put_l0_b
 by_cases hi:(i:Int) < n
 ·have e1:Value.int .u8 (IntKind.wrap .u8 (Int.tmod ((v / 256 ^ i:Nat):Int) 256)) = .int .u8 ((dig v i).v:Int):=by
   rw [dig_v]
   generalize v / 256 ^ i = X
   rw [tmod_pos (by omega),show (X:Int) % 256 = ((X % 256:Nat):Int) by omega,wrapN8,Nat.mod_mod]
  have r1:rdSl (M ++ [.live [.int .u8 ((dig v i).v:Int)]]) (some ⟨M.length,0,none⟩) 1 1 = some [.int .u8 ((dig v i).v:Int)]:=rdSl_all (get_last rfl) rfl
  obtain ⟨M2,a1,a2,a3,a4,a5,a6⟩:=hA.one hg.len (dig v i) (by unfold most;omega)
  have e2:IntKind.wrap .u64 (Int.tdiv ((v / 256 ^ i:Nat):Int) 256) = ((v / 256 ^ (i + 1):Nat):Int):=by
   rw [show (256:Int) = ((256:Nat):Int) from rfl,tdivN,Nat.div_div_eq_div_mul,← Nat.pow_succ]
   exact wrapN64 (Nat.lt_of_le_of_lt (Nat.div_le_self _ _) hv)
  simp only [decide_eq_true hi,cond_true,e1,r1,Option.bind_some,a1,e2]
  refine hnx (r - 1) _ _ _ _ _ _ _ (by omega) ⟨rfl,i + 1,by rw [wrap_i64 (by omega) (by omega)];push_cast;rfl,by omega,rfl,rfl,rfl,a6 m hg (Nat.le_refl _),a2.congr fun j hj => ?_⟩
  unfold put
  split
  ·rename_i h;rw [h]
  ·rfl
 ·obtain rfl:i = n:=by omega
  rw [decide_eq_false hi,cond_false]
  rcases hA with ⟨_,h0⟩ | ⟨d,rfl,h2,h3⟩
  ·omega
  ·exact .some ⟨d,rfl,hg,h2,h3⟩
theorem getV_top (w:Nat → GF):∀ n,getV w (n + 1) = (w 0).v + 256 * getV (fun i => w (1 + i)) n
 | 0 => by simp [getV]
 | n + 1 => by
  show getV w (n + 1) + (w (n + 1)).v * 256 ^ (n + 1) = _
  rw [getV_top w n]
  show _ = (w 0).v + 256 * (getV (fun i => w (1 + i)) n + (w (1 + n)).v * 256 ^ n)
  rw [show 1 + n = n + 1 by omega,Nat.pow_succ,Nat.mul_add]
  have:(w (n + 1)).v * (256 ^ n * 256) = 256 * ((w (n + 1)).v * 256 ^ n):=by rw [Nat.mul_comm (256 ^ n) 256,← Nat.mul_assoc,Nat.mul_comm (w (n + 1)).v 256,Nat.mul_assoc]
  omega
theorem get3_is (k:Nat) (hk:10 < k) {m:Mem} {a:Option Addr} {n c:Nat} {w:Nat → GF} (hw:Src m a n w) (h1:1 ≤ n) (h7:n ≤ 7):patinaref03_Get k a n c m = some (((getV w n:Nat):Int),m):=by
 have key:Ok (patinaref03_Get k a n c m) fun r => r = (((getV w n:Nat):Int),m):=by
  unfold patinaref03_Get
  rw [wrap_i64 (by omega) (by omega)]
  refine patinaref03_Get_l0_rule k _ (fun r x0a x0n x0c x3 x4 M => a = x0a ∧ n = x0n ∧ c = x0c ∧ m = M ∧ ∃ i:Nat,x4 = (i:Int) - 1 ∧ i ≤ n ∧ i = r ∧ x3 = ((getV (fun j => w (i + j)) (n - i):Nat):Int)) ?_ k n _ _ _ _ _ _ (by omega)
   ⟨rfl,rfl,rfl,rfl,n,rfl,Nat.le_refl _,rfl,by rw [Nat.sub_self];rfl⟩
  rintro r nx _ _ _ _ _ _ ⟨rfl,rfl,rfl,rfl,i,rfl,hi,rfl,rfl⟩ hnx
  unfold patinaref03_Get_l0_b
  by_cases h0:i = 0
  ·subst h0
   have d0:decide (((0:Nat):Int) - 1 ≥ 0) = false:=rfl
   rw [d0,cond_false]
   refine .some ?_
   simp only [Nat.sub_zero,Nat.zero_add]
  ·obtain ⟨j,rfl⟩:∃ j,i = j + 1:=⟨i - 1,by omega⟩
   have e0:(((j + 1:Nat):Int) - 1) = (j:Int):=by omega
   obtain ⟨ad,rfl,e1⟩:=hw.ld (i:=j) (by omega)
   have i1:inRange (j:Int) n = true:=inRange_yes (by omega) (by omega)
   have tj:Int.toNat (j:Int) = j:=Int.toNat_natCast j
   have gl:=getV_lt (fun q => w (j + 1 + q)) (n - (j + 1))
   have p6:(256:Nat) ^ (n - (j + 1)) ≤ 256 ^ 6:=Nat.pow_le_pow_right (by omega) (by omega)
   have p6':(256:Nat) ^ 6 = 281474976710656:=rfl
   have vl:=GF.v_lt (w j)
   have e2:IntKind.wrap .u64 (IntKind.wrap .u64 (256 * ((getV (fun q => w (j + 1 + q)) (n - (j + 1)):Nat):Int)) + IntKind.wrap .u64 ((w j).v:Int)) = ((getV (fun q => w (j + q)) (n - j):Nat):Int):=by
    have t:=getV_top (fun q => w (j + q)) (n - (j + 1))
    rw [show n - (j + 1) + 1 = n - j by omega] at t
    have t2:getV (fun i => w (j + (1 + i))) (n - (j + 1)) = getV (fun q => w (j + 1 + q)) (n - (j + 1)):=by congr 1;funext q;congr 1;omega
    simp only [Nat.add_zero] at t
    rw [t2] at t
    rw [t]
    generalize getV (fun q => w (j + 1 + q)) (n - (j + 1)) = X at *
    generalize 256 ^ (n - (j + 1)) = Y at *
    rw [show (256:Int) * (X:Int) = ((256 * X:Nat):Int) by omega,wrapN64 (by omega),wrapN64 (by omega)]
    rw [show ((256 * X:Nat):Int) + ((w j).v:Int) = (((w j).v + 256 * X:Nat):Int) by omega]
    exact wrapN64 (by omega)
   rw [e0]
   have d1:decide ((j:Int) ≥ 0) = true:=decide_eq_true (by omega)
   simp only [d1,cond_true,i1,Option.bind_some,tj,Nat.mul_one,e1,e2]
   exact hnx j _ _ _ _ _ _ (by omega) ⟨rfl,rfl,rfl,rfl,j,by rw [wrap_i64 (by omega) (by omega)],by omega,rfl,rfl⟩
 obtain ⟨r,h2,rfl⟩:=key
 exact h2
open Classical in
theorem may_is (k:Nat) (t:TagT) (m:Mem):patinaref07_May k (tagC t) m = some (decide t.ok,m ++ [.live (tagC t)]):=by
 unfold patinaref07_May
 have L5:Nat.beq (tagC t).length 5 = true:=rfl
 have h:=get_last (m:=m) (o:=.live (tagC t)) rfl
 have l0:ldInt .i64 (m ++ [.live (tagC t)]) ⟨m.length,0,none⟩ = some t.place:=ldInt_of h rfl
 have l1:ldInt .i64 (m ++ [.live (tagC t)]) ⟨m.length,1,none⟩ = some t.of_:=ldInt_of h rfl
 have l2:ldInt .i64 (m ++ [.live (tagC t)]) ⟨m.length,2,none⟩ = some t.seq:=ldInt_of h rfl
 have l3:ldInt .i64 (m ++ [.live (tagC t)]) ⟨m.length,3,none⟩ = some t.copy:=ldInt_of h rfl
 have l4:ldBool (m ++ [.live (tagC t)]) ⟨m.length,4,none⟩ = some t.lost:=ldBool_of h rfl
 generalize m ++ [.live (tagC t)] = M at *
 simp only [L5,cond_true,plus,Nat.zero_add,l0,l1,l2,l3,l4,Option.bind_some]
 have bad:∀ (P:Prop),P → (P → ¬ t.ok) → some (false,M) = some (decide t.ok,M):=fun P hP hn => by rw [decide_eq_false (hn hP)]
 by_cases h0:t.place < 0
 ·rw [decide_eq_true h0];exact bad _ h0 fun h1 h2 => by have:=h2.1;omega
 rw [decide_eq_false h0,cond_false]
 by_cases h1:t.place > 95
 ·rw [decide_eq_true h1];exact bad _ h1 fun h1 h2 => by have:=h2.2.1;omega
 rw [decide_eq_false h1,cond_false]
 by_cases h2:t.of_ < 0
 ·rw [decide_eq_true h2];exact bad _ h2 fun h1 h2 => by have:=h2.2.2.1;omega
 rw [decide_eq_false h2,cond_false]
 by_cases h3:t.of_ > 24
 ·rw [decide_eq_true h3];exact bad _ h3 fun h1 h2 => by have:=h2.2.2.2.1;omega
 rw [decide_eq_false h3,cond_false]
 by_cases h4:t.seq < 1
 ·rw [decide_eq_true h4];exact bad _ h4 fun h1 h2 => by have:=h2.2.2.2.2.1;omega
 rw [decide_eq_false h4,cond_false]
 by_cases h5:t.seq > 1099511627775
 ·rw [decide_eq_true h5];exact bad _ h5 fun h1 h2 => by have:=h2.2.2.2.2.2.1;omega
 rw [decide_eq_false h5,cond_false]
 by_cases h6:t.copy < 0
 ·rw [decide_eq_true h6];exact bad _ h6 fun h1 h2 => by have:=h2.2.2.2.2.2.2.1;omega
 rw [decide_eq_false h6,cond_false]
 by_cases h7:t.copy > 255
 ·rw [decide_eq_true h7];exact bad _ h7 fun h1 h2 => by have:=h2.2.2.2.2.2.2.2.1;omega
 rw [decide_eq_false h7,cond_false]
 by_cases h8:t.of_ = 24
 ·rw [h8]
  have b1:((24:Int) == 24) = true:=rfl
  rw [b1,cond_true]
  cases hl:t.lost with
  | true => rw [decide_eq_false];· rfl
            ·intro h2;have:=h2.2.2.2.2.2.2.2.2.1 h8;rw [hl] at this;cases this
  | false => rw [decide_eq_true];· rfl
             ·exact ⟨by omega,by omega,by omega,by omega,by omega,by omega,by omega,by omega,fun _ => hl,fun h => absurd h8 h⟩
 ·have b1:(t.of_ == 24) = false:=by rw [beq_eq_false_iff_ne];exact h8
  rw [b1,cond_false,tmod_pos (by omega)]
  congr 2
  rw [decide_eq_decide]
  exact ⟨fun h9 => ⟨by omega,by omega,by omega,by omega,by omega,by omega,by omega,by omega,fun h => absurd h h8,fun _ => h9⟩,fun h2 => h2.2.2.2.2.2.2.2.2.2 h8⟩
theorem bodyJ1 (k:Nat) (hk:100 < k) {t:TagT} (ht:t.ok) {m mj ma mb:Mem} {d1 d2:Nat} {b1 b2:Bool} (hm:mj[m.length]? = some (.live (tagC t))) (hd1:mj[d1]? = some (.live (bys 2 (dig t.place.toNat)))) (hd2:mj[d2]? = some (.live (bys 5 (dig t.seq.toNat)))) :
 Ok (patinaref07_Body_j1 k m (⟨some ⟨d1,0,some 1⟩,2,2⟩,b1,ma) (⟨some ⟨d2,0,some 1⟩,5,5⟩,b2,mb) (if t.lost then 1 else 0) mj) fun r => ∃ d,r.1 = ⟨some ⟨d,0,some 1⟩,50,50⟩ ∧ Gr mj r.2 ∧ mj.length ≤ d ∧ r.2[d]? = some (.live (bys 50 (tagW t))):=by
 obtain ⟨o1,o2,o3,o4,o5,o6,o7,o8,o9,o10⟩:=ht
 unfold patinaref07_Body_j1
 have z0:repl 0 [Value.int .u8 0] = []:=rfl
 have t0:Int.toNat 0 = 0:=rfl
 have gA:=Gr.app mj [.live []]
 have r1:rdSl (mj ++ [.live []]) (some ⟨d1,0,some 1⟩) 2 1 = some (bys 2 (dig t.place.toNat)):=Src.of (gA.get hd1)
 have a1:=appM_make (z:=1) (y:=1) (l:=2) (new:=bys 2 (dig t.place.toNat)) (get_last (m:=mj) (o:=.live []) rfl) (by omega) (by unfold most;omega) (by unfold most;omega)
 simp only [z0,t0,r1,Option.bind_some,a1]
 have ml:(mj ++ [MObj.live []]).length = mj.length + 1:=by simp
 have gB:Gr mj ((mj ++ [.live []]) ++ [.live (bys 2 (dig t.place.toNat))]):=gA.trans (Gr.app _ _)
 have c2:Ac mj.length ((mj ++ [.live []]) ++ [.live (bys 2 (dig t.place.toNat))]) (some ⟨(mj ++ [MObj.live []]).length,0,some 1⟩) 2 (dig t.place.toNat):=.inr ⟨_,rfl,by omega,get_last rfl⟩
 generalize (mj ++ [MObj.live []]) ++ [.live (bys 2 (dig t.place.toNat))] = M2 at *
 generalize (mj ++ [MObj.live []]).length = D2 at *
 have l1:ldInt .i64 M2 ⟨m.length,1,none⟩ = some t.of_:=ldInt_of (gB.get hm) rfl
 have e1:Value.int .u8 (IntKind.wrap .u8 t.of_) = .int .u8 ((dig t.of_.toNat 0).v:Int):=by
  rw [dig_v];congr 1
  conv => lhs;rw [← Int.toNat_of_nonneg o3]
  rw [wrapN8,Nat.pow_zero,Nat.div_one]
 have r2:rdSl (M2 ++ [.live [.int .u8 ((dig t.of_.toNat 0).v:Int)]]) (some ⟨M2.length,0,none⟩) 1 1 = some [.int .u8 ((dig t.of_.toNat 0).v:Int)]:=rdSl_all (get_last rfl) rfl
 obtain ⟨M3,a2,c3,_,_,_,g3⟩:=c2.one gB.len (dig t.of_.toNat 0) (by unfold most;omega)
 have gC:=g3 mj gB (Nat.le_refl _)
 simp only [plus,Nat.zero_add,l1,Option.bind_some,e1,r2,a2]
 have r3:rdSl M3 (some ⟨d2,0,some 1⟩) 5 1 = some (bys 5 (dig t.seq.toNat)):=Src.of (gC.get hd2)
 obtain ⟨M4,a3,c4,_,_,_,g4⟩:=c3.app (l:=5) (u:=dig t.seq.toNat) gC.len (by omega) (by unfold most;omega)
 have gD:=g4 mj gC (Nat.le_refl _)
 simp only [r3,Option.bind_some,a3]
 have l3:ldInt .i64 M4 ⟨m.length,3,none⟩ = some t.copy:=ldInt_of (gD.get hm) rfl
 have e3:([Value.int .u8 (IntKind.wrap .u8 t.copy),Value.int .u8 (if t.lost then 1 else 0)]:List Value) = bys 2 (fun i => if i < 1 then dig t.copy.toNat 0 else dig (if t.lost then 1 else 0) 0):=by
  have:IntKind.wrap .u8 t.copy = ((dig t.copy.toNat 0).v:Int):=by
   rw [dig_v]
   conv => lhs;rw [← Int.toNat_of_nonneg o7]
   rw [wrapN8,Nat.pow_zero,Nat.div_one]
  rw [this]
  cases t.lost <;> rfl
 have r4:rdSl (M4 ++ [.live (bys 2 (fun i => if i < 1 then dig t.copy.toNat 0 else dig (if t.lost then 1 else 0) 0))]) (some ⟨M4.length,0,none⟩) 2 1 = some (bys 2 (fun i => if i < 1 then dig t.copy.toNat 0 else dig (if t.lost then 1 else 0) 0)):=Src.of (get_last rfl)
 have gE:=gD.trans (Gr.app M4 [.live (bys 2 (fun i => if i < 1 then dig t.copy.toNat 0 else dig (if t.lost then 1 else 0) 0))])
 obtain ⟨M5,a4,c5,_,_,_,g5⟩:=(c4.keep (m':=M4 ++ [.live (bys 2 (fun i => if i < 1 then dig t.copy.toNat 0 else dig (if t.lost then 1 else 0) 0))]) fun p o _ hp => get_grow hp).app (l:=2) (u:=fun i => if i < 1 then dig t.copy.toNat 0 else dig (if t.lost then 1 else 0) 0) gE.len (by omega) (by unfold most;omega)
 have gF:=g5 mj gE (Nat.le_refl _)
 simp only [l3,Option.bind_some,e3,r4,a4]
 have c6:=c5.congr (u:=tagW t) fun i hi => by
  unfold tagW put
  by_cases h1:i < 2
  ·simp only [if_pos h1,if_pos (show i < 8 by omega),if_pos (show i < 3 by omega),if_neg (show ¬ i = 2 by omega),if_pos (show i < 2 + 1 + 5 by omega),if_pos (show i < 2 + 1 by omega)]
  by_cases h2:i < 3
  ·obtain rfl:i = 2:=by omega
   rfl
  by_cases h3:i < 8
  ·simp only [if_neg h1,if_neg h2,if_pos h3,if_pos (show i < 2 + 1 + 5 by omega),if_neg (show ¬ i < 2 + 1 by omega)]
  by_cases h4:i < 9
  ·obtain rfl:i = 8:=by omega
   rfl
  ·obtain rfl:i = 9:=by omega
   rfl
 refine patinaref07_Body_l0_rule k _ (fun r xa xn xc M => ∃ i:Nat,i = xn ∧ i = xc ∧ 10 ≤ i ∧ i + r = 50 ∧ Gr mj M ∧ Ac mj.length M xa i (tagW t)) ?_ k 40 _ _ _ _ (by omega)
  ⟨10,rfl,rfl,Nat.le_refl _,rfl,gF,c6⟩
 rintro r nx a _ _ M ⟨i,rfl,rfl,h10,hr,hg,hA⟩ hnx
 unfold patinaref07_Body_l0_b
 by_cases hi:(i:Int) < 50
 ·have e0:([Value.int .u8 0]:List Value) = [.int .u8 ((tagW t i).v:Int)]:=by
   unfold tagW
   rw [if_neg (by omega),if_neg (by omega),if_neg (by omega),if_neg (by omega),if_neg (by omega)];rfl
  have r0:rdSl (M ++ [.live [.int .u8 ((tagW t i).v:Int)]]) (some ⟨M.length,0,none⟩) 1 1 = some [.int .u8 ((tagW t i).v:Int)]:=rdSl_all (get_last rfl) rfl
  obtain ⟨M',b1,b2,_,_,_,b3⟩:=hA.one hg.len (tagW t i) (by unfold most;omega)
  simp only [decide_eq_true hi,cond_true,e0,r0,Option.bind_some,b1]
  refine hnx (r - 1) _ _ _ _ (by omega) ⟨i + 1,rfl,rfl,by omega,by omega,b3 mj hg (Nat.le_refl _),b2.congr fun j hj => ?_⟩
  unfold put
  split
  ·rename_i h;rw [h]
  ·rfl
 ·obtain rfl:i = 50:=by omega
  rw [decide_eq_false hi,cond_false]
  rcases hA with ⟨_,h0⟩ | ⟨d,rfl,h2,h3⟩
  ·omega
  ·exact .some ⟨d,rfl,hg,h2,h3⟩
theorem refTB_ok (k:Nat) (hk:100 < k) {t:TagT} (ht:t.ok) (m:Mem):Ok (patinaref07_Body k (tagC t) m) fun r => ∃ d,r.1 = ⟨some ⟨d,0,some 1⟩,50,50⟩ ∧ Gr m r.2 ∧ m.length ≤ d ∧ r.2[d]? = some (.live (bys 50 (tagW t))):=by
 have ht':=ht
 obtain ⟨o1,o2,o3,o4,o5,o6,o7,o8,o9,o10⟩:=ht
 unfold patinaref07_Body
 have L5:Nat.beq (tagC t).length 5 = true:=rfl
 have g1:=Gr.app m [.live (tagC t)]
 have x1:(m ++ [MObj.live (tagC t)])[m.length]? = some (.live (tagC t)):=get_last rfl
 have l0:ldInt .i64 (m ++ [.live (tagC t)]) ⟨m.length,0,none⟩ = some t.place:=ldInt_of x1 rfl
 have w0:IntKind.wrap .u64 t.place = ((t.place.toNat:Nat):Int):=by
  conv => lhs;rw [← Int.toNat_of_nonneg o1]
  exact wrapN64 (by omega)
 have w2:IntKind.wrap .u64 t.seq = ((t.seq.toNat:Nat):Int):=by
  conv => lhs;rw [← Int.toNat_of_nonneg (show 0 ≤ t.seq by omega)]
  exact wrapN64 (by omega)
 simp only [L5,cond_true,plus,Nat.zero_add,l0,Option.bind_some,w0]
 generalize m ++ [MObj.live (tagC t)] = M1 at *
 refine .bind (put3_ok k (by omega) M1 t.place.toNat 2 (by omega) (by omega) (by omega)) ?_
 rintro ⟨_,b1,M2⟩ ⟨d1,rfl,g2,hd1,hb1⟩
 simp only at g2 hb1 ⊢
 have x2:=g2.get x1
 have l2:ldInt .i64 M2 ⟨m.length,2,none⟩ = some t.seq:=ldInt_of x2 rfl
 simp only [l2,Option.bind_some,w2]
 refine .bind (put3_ok k (by omega) M2 t.seq.toNat 5 (by omega) (by omega) (by omega)) ?_
 rintro ⟨_,b2,M3⟩ ⟨d2,rfl,g3,hd2,hb2⟩
 simp only at g3 hb2 ⊢
 have x3:=g3.get x2
 have l4:ldBool M3 ⟨m.length,4,none⟩ = some t.lost:=ldBool_of x3 rfl
 have gg:=(g1.trans g2).trans g3
 have J:=bodyJ1 k hk ht' (b1:=b1) (b2:=b2) (ma:=M2) (mb:=M3) x3 (g3.get hb1) hb2
 simp only [l4,Option.bind_some]
 cases hl:t.lost with
 | true =>
  rw [hl] at J
  exact J.mono fun r ⟨d,a1,a2,a3,a4⟩ => ⟨d,a1,gg.trans a2,Nat.le_trans gg.len a3,a4⟩
 | false =>
  rw [hl] at J
  exact J.mono fun r ⟨d,a1,a2,a3,a4⟩ => ⟨d,a1,gg.trans a2,Nat.le_trans gg.len a3,a4⟩
open Classical in
theorem refTag_ok (k:Nat) (hk:100 < k) {m:Mem} {ad:Addr} {c:Nat} {w:Nat → GF} (hw:Src m (some ad) 50 w) (hz:okS ad) (hc:50 ≤ c) :
 Ok (patinaref07_Tag k (some ad) 50 c m) fun r => Gr m r.2.2 ∧ ((∃ t,tagD w = some t ∧ r.1 = tagC t ∧ r.2.1 = true) ∨ (tagD w = none ∧ r.1 = tagC ztag ∧ r.2.1 = false)):=by
 unfold patinaref07_Tag
 have hz0:([.int .i64 0,.int .i64 0,.int .i64 0,.int .i64 0,.bool false]:List Value) = tagC ztag:=rfl
 have g1:Gr m (m ++ [.live (tagC ztag)]):=Gr.app _ _
 have z1:(m ++ [MObj.live (tagC ztag)])[m.length]? = some (.live (tagC ztag)):=get_last rfl
 have u1:inUpto 2 c = true:=inUpto_yes (by omega) (by omega)
 have u2:inUpto 8 c = true:=inUpto_yes (by omega) (by omega)
 have u3:inUpto 3 (Int.toNat 8) = true:=rfl
 have oz:=hz.z
 have i2:inRange 2 50 = true:=rfl
 have i8:inRange 8 50 = true:=rfl
 have i9:inRange 9 50 = true:=rfl
 have s1:=hw.grow g1
 have s2:Src (m ++ [.live (tagC ztag)]) (some (plus ad 0)) 2 fun i => w (0 + i):=s1.part (by omega)
 have s2:Src (m ++ [.live (tagC ztag)]) (some ad) 2 w:=by
  have e:plus ad 0 = ad:=rfl
  rw [e] at s2
  simpa only [Nat.zero_add] using s2
 have s3:Src (m ++ [.live (tagC ztag)]) (some (plus ad 3)) 5 fun i => w (3 + i):=s1.part (by omega)
 have e1:=get3_is k (by omega) (c:=c) s2 (by omega) (by omega)
 have e2:=get3_is k (by omega) (c:=c - 3) s3 (by omega) (by omega)
 have ld:∀ (i:Nat),i < 50 → ∀ M,Gr (m ++ [.live (tagC ztag)]) M → ldInt .u8 M (plus ad i) = some ((w i).v:Int):=fun i hi M hg => by
  obtain ⟨ad',h1,h2⟩:=(s1.grow hg).ld hi
  cases h1;exact h2
 have l2:=ld 2 (by omega) _ (Gr.refl _)
 have l8:=ld 8 (by omega) _ (Gr.refl _)
 have l9:=ld 9 (by omega) _ (Gr.refl _)
 have gm1:Gr m (m ++ [MObj.live (tagC ztag)]):=Gr.app _ _
 generalize hM1:m ++ [MObj.live (tagC ztag)] = M1 at *
 have ml:M1.length = m.length + 1:=by rw [← hM1];simp
 have v0:=getV_lt w 2
 have v1:=getV_lt (fun i => w (3 + i)) 5
 have p2:(256:Nat) ^ 2 = 65536:=rfl
 have p5:(256:Nat) ^ 5 = 1099511627776:=rfl
 rw [p2] at v0;rw [p5] at v1
 have b2:=GF.v_lt (w 2)
 have b8:=GF.v_lt (w 8)
 have bo:(((w 9).v:Int) == 1) = decide ((w 9).v = 1):=by
  by_cases h:(w 9).v = 1
  ·rw [h];rfl
  ·rw [decide_eq_false h,beq_eq_false_iff_ne];omega
 have w0:IntKind.wrap .i64 ((getV w 2:Nat):Int) = ((getV w 2:Nat):Int):=wrap_i64 (by omega) (by omega)
 have w2:IntKind.wrap .i64 ((w 2).v:Int) = ((w 2).v:Int):=wrap_i64 (by omega) (by omega)
 have w8:IntKind.wrap .i64 ((w 8).v:Int) = ((w 8).v:Int):=wrap_i64 (by omega) (by omega)
 have w3:IntKind.wrap .i64 ((getV (fun i => w (3 + i)) 5:Nat):Int) = ((getV (fun i => w (3 + i)) 5:Nat):Int):=wrap_i64 (by omega) (by omega)
 have l2':=ld 2 (by omega) _ (Gr.app M1 [.live (tagC ztag)])
 have l8':=ld 8 (by omega) _ (Gr.app M1 [.live (tagC ztag)])
 have l9':=ld 9 (by omega) _ (Gr.app M1 [.live (tagC ztag)])
 have ht:([Value.int .i64 ((getV w 2:Nat):Int),.int .i64 ((w 2).v:Int),.int .i64 ((getV (fun i => w (3 + i)) 5:Nat):Int),.int .i64 ((w 8).v:Int),.bool (decide ((w 9).v = 1))]:List Value) = tagC (tagP w):=rfl
 have st1:stCells (M1 ++ [.live (tagC ztag)]) ⟨M1.length,0,none⟩ (tagC (tagP w)) = some (M1 ++ [.live (tagC (tagP w))]):=by rw [stCells_wr (get_last rfl) (Nat.le_refl _),wr_last rfl];rfl
 have c1:ldCells (M1 ++ [.live (tagC (tagP w))]) ⟨M1.length,0,none⟩ 5 = some (tagC (tagP w)):=by rw [ldCells_of (off:=0) (n:=5) (get_last rfl) (Nat.le_refl _)];rfl
 have t2:Int.toNat 2 = 2:=rfl
 have t3:Int.toNat 3 = 3:=rfl
 have t8:Int.toNat 8 = 8:=rfl
 have t9:Int.toNat 9 = 9:=rfl
 have hmay:=may_is k (tagP w) (M1 ++ [.live (tagC (tagP w))])
 have gA:=(Gr.app M1 [.live (tagC (tagP w))]).trans (Gr.app (M1 ++ [.live (tagC (tagP w))]) [.live (tagC (tagP w))])
 have xA:((M1 ++ [MObj.live (tagC (tagP w))]) ++ [.live (tagC (tagP w))])[M1.length]? = some (.live (tagC (tagP w))):=get_grow (get_last rfl)
 have cA:ldCells ((M1 ++ [.live (tagC (tagP w))]) ++ [.live (tagC (tagP w))]) ⟨M1.length,0,none⟩ 5 = some (tagC (tagP w)):=by rw [ldCells_of (off:=0) (n:=5) xA (Nat.le_refl _)];rfl
 simp only [hz0,u1,u2,u3,oz,Bool.and_self,cond_true,clear_f,t2,t3,t8,t9,e1,Option.bind_some,Option.map_some,Nat.mul_one,show 8 - 3 = 5 from rfl,e2,i2,i8,i9,l2,l8,l9,w0,w2,w3,w8,bo,ht,hM1,st1,l2',l8',l9',beq_self_eq_true,c1,hmay,cA]
 generalize (M1 ++ [MObj.live (tagC (tagP w))]) ++ [.live (tagC (tagP w))] = MA at *
 have fin0:∀ M,Gr M1 M → ∃ M',stCells M ⟨m.length,0,none⟩ (tagC ztag) = some M' ∧ ldCells M' ⟨m.length,0,none⟩ 5 = some (tagC ztag) ∧ Gr m M':=fun M hg => by
  have z2:=hg.get z1
  refine ⟨_,stCells_wr z2 (Nat.le_refl _),?_,(gm1.trans hg).wr (Nat.le_refl _) _⟩
  rw [ldCells_of (off:=0) (n:=5) (wr_get z2) (Nat.le_refl _)];rfl
 by_cases hok:(tagP w).ok
 ·rw [decide_eq_true hok,Bool.not_true,cond_false]
  refine .bind (refTB_ok k hk hok _) ?_
  rintro ⟨_,M⟩ ⟨q,rfl,hg,hq1,hq2⟩
  simp only at hg hq2 ⊢
  have gM:Gr M1 M:=gA.trans hg
  obtain ⟨z,f1,f2⟩:=same_is k (m:=M) (c:=50) (c':=c) (Src.of (sp:=some 1) hq2) (s1.grow gM) (by omega) (by omega)
  simp only [Option.bind_some,f1]
  cases z with
  | false =>
   obtain ⟨M',g1,g2,g3⟩:=fin0 M gM
   have hn:tagD w = none:=by
    unfold tagD
    rw [if_neg]
    rintro ⟨_,h⟩
    have:=f2.2 ⟨rfl,h⟩
    cases this
   simp only [Bool.not_false,cond_true,g1,Option.bind_some,g2]
   exact .some ⟨g3,.inr ⟨hn,rfl,rfl⟩⟩
  | true =>
   have hs:tagD w = some (tagP w):=by unfold tagD;rw [if_pos ⟨hok,(f2.1 rfl).2⟩]
   have x1:M[M1.length]? = some (.live (tagC (tagP w))):=hg.get xA
   have c2:ldCells M ⟨M1.length,0,none⟩ 5 = some (tagC (tagP w)):=by rw [ldCells_of (off:=0) (n:=5) x1 (Nat.le_refl _)];rfl
   have z2:=gM.get z1
   have st2:stCells M ⟨m.length,0,none⟩ (tagC (tagP w)) = some (wr M m.length (tagC (tagP w))):=stCells_wr z2 (Nat.le_refl _)
   have c3:ldCells (wr M m.length (tagC (tagP w))) ⟨m.length,0,none⟩ 5 = some (tagC (tagP w)):=by rw [ldCells_of (off:=0) (n:=5) (wr_get z2) (Nat.le_refl _)];rfl
   have L5:Nat.beq (tagC (tagP w)).length 5 = true:=rfl
   simp only [Bool.not_true,cond_false,c2,Option.bind_some,L5,cond_true,st2,c3]
   exact .some ⟨(gm1.trans gM).wr (Nat.le_refl _) _,.inl ⟨_,hs,rfl,rfl⟩⟩
 ·rw [decide_eq_false hok,Bool.not_false,cond_true]
  obtain ⟨M',g1,g2,g3⟩:=fin0 MA gA
  have hn:tagD w = none:=by unfold tagD;rw [if_neg fun h => hok h.1]
  simp only [g1,Option.bind_some,g2]
  exact .some ⟨g3,.inr ⟨hn,rfl,rfl⟩⟩
end Go.Proofs.YtchonnaoojpdoaaGreat
set_option linter.unusedVariables false
set_option linter.unusedSectionVars false
set_option linter.unusedSimpArgs false
namespace Go.Proofs.YtchonnaoojpdoaaGreat
open Go.Mx
section
variable {m:Mem} {r:Nat} {lab:Nat → Option Lab} {g:RG} {σ:ChipS} (h:RefX m r lab g σ)
include h
theorem refFlip_is (k:Nat) (hk:64 < k) (p b:Int):∃ m' g',patinaref05_Chip_Flip k (some ⟨r,0,none⟩) p b m = some (if 0 ≤ p ∧ p < 96 ∧ 0 ≤ b ∧ b < 2048 then 0 else 1,m') ∧
 RefX m' r lab g' (if 0 ≤ p ∧ p < 96 ∧ 0 ≤ b ∧ b < 2048 then σ.flip p b else σ) ∧ Ch (fun p => lab p ≠ none) m m':=by
 unfold patinaref05_Chip_Flip
 rw [refIsPage_is]
 by_cases hpp:0 ≤ p ∧ p < 96
 ·by_cases hb0:b < 0
  ·have hh:¬ (0 ≤ p ∧ p < 96 ∧ 0 ≤ b ∧ b < 2048):=by omega
   refine ⟨m,g,?_,by rw [if_neg hh];exact h,.refl _ _⟩
   simp (disch:=omega) only [SX,plus,decide_eq_true hpp,decide_eq_true hb0,if_neg hh]
  ·by_cases hb1:b ≥ 2048
   ·have hh:¬ (0 ≤ p ∧ p < 96 ∧ 0 ≤ b ∧ b < 2048):=by omega
    refine ⟨m,g,?_,by rw [if_neg hh];exact h,.refl _ _⟩
    simp (disch:=omega) only [SX,plus,decide_eq_true hpp,decide_eq_false hb0,decide_eq_true hb1,if_neg hh]
   ·have hh:0 ≤ p ∧ p < 96 ∧ 0 ≤ b ∧ b < 2048:=by omega
    have hp:isAt p (b / 512):=⟨by omega,by omega,by omega,by omega⟩
    have x0:0 ≤ p / 8:=by omega
    have x1:p / 8 < 12:=by omega
    have e1:IntKind.wrap .i64 (Int.tdiv (IntKind.wrap .i64 (Int.tdiv b 8)) 64) = b / 512:=by
     have hw8:IntKind.wrap .i64 (Int.tdiv b 8) = b / 8:=by rw [tdiv_pos (by omega),wrap_i64 (by omega) (by omega)]
     rw [hw8,tdiv_pos (by omega),wrap_i64 (by omega) (by omega)];omega
    have e2:Int.tmod (IntKind.wrap .i64 (Int.tdiv b 8)) 64 = b / 8 % 64:=by
     rw [tdiv_pos (by omega),wrap_i64 (by omega) (by omega),tmod_pos (by omega)]
    have e3:b / 8 / 64 = b / 512:=by omega
    have hN:=h.now_ hp
    have hT:=h.tru_ hp
    have lN:=h.ldNow hp
    rw [rowA_eq] at lN
    have hLs:=(h.ls (p / 8) x0 x1)
    have hNs:=(h.ns (p / 8) (p % 8 * 4 + b / 512) x0 x1 (by omega) (by omega)).2
    have hTs:=(h.ts (p / 8) (p % 8 * 4 + b / 512) x0 x1 (by omega) (by omega)).2
    have neNL:(g.N (p / 8) (p % 8 * 4 + b / 512)).1 ≠ g.L (p / 8):=fun he => by rw [he,hLs.2] at hNs;cases hNs
    have neTN:(g.T (p / 8) (p % 8 * 4 + b / 512)).1 ≠ (g.N (p / 8) (p % 8 * 4 + b / 512)).1:=fun he => by rw [he,hNs] at hTs;cases hTs
    have neTL:(g.T (p / 8) (p % 8 * 4 + b / 512)).1 ≠ g.L (p / 8):=fun he => by rw [he,hLs.2] at hTs;cases hTs
    have i1:inRange (b / 8 % 64) 64 = true:=inRange_yes (by omega) (by omega)
    have f1:=arr_ld (sp:=if (g.N (p / 8) (p % 8 * 4 + b / 512)).2 then some 1 else none) hN (x:=b / 8 % 64) (by omega) (by omega)
    have f2:=arr_st (sp:=if (g.N (p / 8) (p % 8 * 4 + b / 512)).2 then some 1 else none) (v:=bitI .xor .u8 ((σ.at_ p (b / 512)).now (b / 8 % 64)) (shlI .u8 1 (b % 8))) hN (x:=b / 8 % 64) (by omega) (by omega)
    have hs0:σ.at_ p (b / 512) = (σ.b (p / 8)).ch (p % 8 * 4 + b / 512):=rfl
    let s:=σ.at_ p (b / 512)
    let t:=flipC s (b / 8 % 64) (b % 8)
    have g1:(wr m (g.N (p / 8) (p % 8 * 4 + b / 512)).1 (arr .u8 64 t.now))[(g.N (p / 8) (p % 8 * 4 + b / 512)).1]? = some (.live (arr .u8 64 t.now)):=wr_get hN
    have gT:(wr m (g.N (p / 8) (p % 8 * 4 + b / 512)).1 (arr .u8 64 t.now))[(g.T (p / 8) (p % 8 * 4 + b / 512)).1]? = some (.live (arr .u8 64 s.tru)):=by rw [wr_ne (Ne.symm neTN)];exact hT
    have gL:(wr m (g.N (p / 8) (p % 8 * 4 + b / 512)).1 (arr .u8 64 t.now))[g.L (p / 8)]? = some (.live (rchs g (p / 8) (σ.b (p / 8)))):=by rw [wr_ne neNL];exact hLs.1
    have l0:=ldSl_of (sp:=some 4) gL (rchs_get (g:=g) (i:=p / 8) (β:=σ.b (p / 8)) (x:=p % 8 * 4 + b / 512) (y:=0) (by omega) (by omega) (by omega))
    have l1:=ldSl_of (sp:=some 4) gL (rchs_get (g:=g) (i:=p / 8) (β:=σ.b (p / 8)) (x:=p % 8 * 4 + b / 512) (y:=1) (by omega) (by omega) (by omega))
    have l3:ldInt .i64 (wr m (g.N (p / 8) (p % 8 * 4 + b / 512)).1 (arr .u8 64 t.now)) ⟨g.L (p / 8),(p % 8 * 4 + b / 512).toNat * 4 + 3,some 4⟩ = some s.worst:=ldInt_of gL (rchs_get (x:=p % 8 * 4 + b / 512) (y:=3) (by omega) (by omega) (by omega))
    rw [Nat.add_zero] at l0
    have hdm:=refDmg_ok k hk l0 l1 g1 gT
    have htd:cntNe t.now s.tru 64 = t.damage:=rfl
    rw [htd] at hdm
    have hf:(fun j => rch (g.N (p / 8) j) (g.T (p / 8) j) ((σ.b (p / 8)).ch j)) = fun j => rch (g.N (p / 8) j) (g.T (p / 8) j) ((σ.b (p / 8)).ch j):=rfl
    have c1:Ch (fun p => lab p ≠ none) m (wr m (g.N (p / 8) (p % 8 * 4 + b / 512)).1 (arr .u8 64 t.now)):=(Ch.refl _ m).wr (.inl (by rw [hNs];simp)) _
    by_cases hgt:t.damage > s.worst
    ·have hmk:s.mark t = { t with worst:=t.damage }:=by unfold ChunkS.mark maxI;rw [if_pos hgt]
     have gL':=gL
     have er:rchs g (p / 8) (σ.b (p / 8)) = farr 32 (upd (fun j => rch (g.N (p / 8) j) (g.T (p / 8) j) ((σ.b (p / 8)).ch j)) (p % 8 * 4 + b / 512) (rch (g.N (p / 8) (p % 8 * 4 + b / 512)) (g.T (p / 8) (p % 8 * 4 + b / 512)) s)):=by
      have:=upd_self (fun j => rch (g.N (p / 8) j) (g.T (p / 8) j) ((σ.b (p / 8)).ch j)) (p % 8 * 4 + b / 512)
      show farr 32 (fun j => rch (g.N (p / 8) j) (g.T (p / 8) j) ((σ.b (p / 8)).ch j)) = farr 32 (upd (fun j => rch (g.N (p / 8) j) (g.T (p / 8) j) ((σ.b (p / 8)).ch j)) (p % 8 * 4 + b / 512) ((fun j => rch (g.N (p / 8) j) (g.T (p / 8) j) ((σ.b (p / 8)).ch j)) (p % 8 * 4 + b / 512)))
      rw [this]
     rw [er] at gL'
     have s3:=lc_st (fun _ => rfl) (J:=p % 8 * 4 + b / 512) (by omega) (by omega) rfl gL' (y:=3) (by omega) (.int .i64 t.damage)
     have hc:(rch (g.N (p / 8) (p % 8 * 4 + b / 512)) (g.T (p / 8) (p % 8 * 4 + b / 512)) s).set 3 (.int .i64 t.damage) = rch (g.N (p / 8) (p % 8 * 4 + b / 512)) (g.T (p / 8) (p % 8 * 4 + b / 512)) (s.mark t):=by rw [hmk];rfl
     rw [hc] at s3
     refine ⟨_,{ g with N:=upd g.N (p / 8) (upd (g.N (p / 8)) (p % 8 * 4 + b / 512) (g.N (p / 8) (p % 8 * 4 + b / 512))),T:=upd g.T (p / 8) (upd (g.T (p / 8)) (p % 8 * 4 + b / 512) (g.T (p / 8) (p % 8 * 4 + b / 512))) },?_,?_,c1.wr (.inl (by rw [hLs.2];simp)) (farr 32 (upd (fun j => rch (g.N (p / 8) j) (g.T (p / 8) j) ((σ.b (p / 8)).ch j)) (p % 8 * 4 + b / 512) (rch (g.N (p / 8) (p % 8 * 4 + b / 512)) (g.T (p / 8) (p % 8 * 4 + b / 512)) (s.mark t))))⟩
     ·simp (disch:=omega) only [SX,plus,decide_eq_true hpp,decide_eq_false hb0,decide_eq_false hb1,e1,e2,e3,refChunk_is h hp,lN,i1,f1,f2]
      simp (disch:=omega) only [SX,plus,show upd (σ.at_ p (b / 512)).now (b / 8 % 64) (bitI .xor .u8 ((σ.at_ p (b / 512)).now (b / 8 % 64)) (shlI .u8 1 (b % 8))) = t.now from rfl,hdm,l3,decide_eq_true hgt,s3,patinaref05_Chip_Flip_j1,if_pos hh]
     ·rw [if_pos hh]
      refine h.chunk (lab':=lab) (n':=g.N (p / 8) (p % 8 * 4 + b / 512)) (t':=g.T (p / 8) (p % 8 * 4 + b / 512)) (c':=s.mark t) x0 x1 (by omega) (by omega) (fun p0 hp0 => by rw [wr_len,wr_len];exact h.lt p0 hp0) (fun _ _ => rfl) ?_ ?_ ?_ ?_
      ·intro p0 _ h1 h2
       rw [wr_ne (Ne.symm h1),wr_ne (Ne.symm h2)]
      ·exact wr_get gL
      ·exact ⟨by rw [wr_ne (Ne.symm neNL),hmk];exact g1,hNs⟩
      ·exact ⟨by rw [wr_ne (Ne.symm neTL),hmk];exact gT,hTs⟩
    ·have hmk:s.mark t = t:=by unfold ChunkS.mark maxI;rw [if_neg hgt];rfl
     refine ⟨_,{ g with N:=upd g.N (p / 8) (upd (g.N (p / 8)) (p % 8 * 4 + b / 512) (g.N (p / 8) (p % 8 * 4 + b / 512))),T:=upd g.T (p / 8) (upd (g.T (p / 8)) (p % 8 * 4 + b / 512) (g.T (p / 8) (p % 8 * 4 + b / 512))) },?_,?_,c1⟩
     ·simp (disch:=omega) only [SX,plus,decide_eq_true hpp,decide_eq_false hb0,decide_eq_false hb1,e1,e2,e3,refChunk_is h hp,lN,i1,f1,f2]
      simp (disch:=omega) only [SX,plus,show upd (σ.at_ p (b / 512)).now (b / 8 % 64) (bitI .xor .u8 ((σ.at_ p (b / 512)).now (b / 8 % 64)) (shlI .u8 1 (b % 8))) = t.now from rfl,hdm,l3,decide_eq_false hgt,patinaref05_Chip_Flip_j1,if_pos hh]
     ·rw [if_pos hh]
      refine h.chunk (lab':=lab) (n':=g.N (p / 8) (p % 8 * 4 + b / 512)) (t':=g.T (p / 8) (p % 8 * 4 + b / 512)) (c':=s.mark t) x0 x1 (by omega) (by omega) (fun p0 hp0 => by rw [wr_len];exact h.lt p0 hp0) (fun _ _ => rfl) ?_ ?_ ?_ ?_
      ·intro p0 _ h1 h2
       rw [wr_ne (Ne.symm h2)]
      ·rw [gL,hmk]
       unfold rchs
       rw [farr_congr fun j _ _ => ?_]
       by_cases hj:j = p % 8 * 4 + b / 512
       ·subst hj;rw [upd_same];rfl
       ·rw [upd_ne hj]
      ·exact ⟨by rw [hmk];exact g1,hNs⟩
      ·exact ⟨by rw [hmk];exact gT,hTs⟩
 ·have hh:¬ (0 ≤ p ∧ p < 96 ∧ 0 ≤ b ∧ b < 2048):=by omega
  refine ⟨m,g,?_,by rw [if_neg hh];exact h,.refl _ _⟩
  simp (disch:=omega) only [SX,plus,decide_eq_false hpp,if_neg hh]
end
structure Nw (m0 M:Mem) (n:Nat) (a:Option Addr) (lab:Nat → Option Lab) (g:RG) (σ:ChipS) (hd:List Value):Prop where
 gr:Gr m0 M
 r_:M[m0.length]? = some (.live (.slice a n n :: hd)) ∧ lab m0.length = some .chip
 q_:(a = none ∧ n = 0) ∨ (a = some ⟨g.q,0,some 5⟩ ∧ M[g.q]? = some (.live (farr n fun i => rblk (g.L i) (g.A i) (σ.b i))) ∧ lab g.q = some .blocks)
 l_:∀ i:Int,0 ≤ i → i < n → M[g.L i]? = some (.live (rchs g i (σ.b i))) ∧ lab (g.L i) = some (.of i .l)
 n_:∀ i j:Int,0 ≤ i → i < n → 0 ≤ j → j < 32 → M[(g.N i j).1]? = some (.live (arr .u8 64 ((σ.b i).ch j).now)) ∧ lab (g.N i j).1 = some (.of i (.n j))
 t_:∀ i j:Int,0 ≤ i → i < n → 0 ≤ j → j < 32 → M[(g.T i j).1]? = some (.live (arr .u8 64 ((σ.b i).ch j).tru)) ∧ lab (g.T i j).1 = some (.of i (.t j))
 at_:∀ i:Int,0 ≤ i → i < n → AtOk σ.steps (g.A i) (σ.b i).before
 new:∀ p,lab p ≠ none → m0.length ≤ p ∧ p < M.length
theorem Nw.done {m0 M:Mem} {a:Option Addr} {lab:Nat → Option Lab} {g:RG} {σ:ChipS} (h:Nw m0 M 12 a lab g σ [.bool (!σ.off),.int .i64 (budR σ),.int .i64 σ.steps]):RefX M m0.length lab g σ:=by
 rcases h.q_ with ⟨_,h0⟩ | ⟨rfl,h1,h2⟩
 ·omega
 ·exact ⟨h.r_.1,h.r_.2,h1,h2,h.l_,h.n_,h.t_,h.at_,fun p hp => (h.new p hp).2⟩
theorem Nw.next {m0 M M2:Mem} {n:Nat} {a:Option Addr} {lab:Nat → Option Lab} {g:RG} {σ:ChipS} {hd:List Value} (h:Nw m0 M n a lab g σ hd) {L:Nat} {N T:Int → Nat × Bool} {av:Int} {lb:Nat → Option CL} (hg:Gr M M2)
 (hL:M2[L]? = some (.live (farr 32 fun j => rch (N j) (T j) ((σ.b n).ch j))) ∧ lb L = some .l) (hN:∀ j:Int,0 ≤ j → j < 32 → M2[(N j).1]? = some (.live (arr .u8 64 ((σ.b n).ch j).now)) ∧ lb (N j).1 = some (.n j))
 (hT:∀ j:Int,0 ≤ j → j < 32 → M2[(T j).1]? = some (.live (arr .u8 64 ((σ.b n).ch j).tru)) ∧ lb (T j).1 = some (.t j)) (hA:AtOk σ.steps av (σ.b n).before) (hnew:∀ p,lb p ≠ none → M.length ≤ p ∧ p < M2.length) (hn:n < 12) {sp:Option Nat} :
 ∃ M3,appM 5 56 (M2 ++ [.live (rblk L av (σ.b n))]) a n n 1 (rblk L av (σ.b n)) = some (⟨some ⟨M2.length + 1,0,some 5⟩,n + 1,n + 1⟩,M3) ∧ M3[m0.length]? = some (.live (.slice a n n :: hd)) ∧
  ∃ lab' g',Nw m0 (wr M3 m0.length (.slice (some ⟨M2.length + 1,0,some 5⟩) (n + 1) (n + 1) :: hd)) (n + 1) (some ⟨M2.length + 1,0,some 5⟩) lab' g' σ hd:=by
 have l3:(M2 ++ [MObj.live (rblk L av (σ.b n))]).length = M2.length + 1:=by simp
 have hgM:Gr M (M2 ++ [.live (rblk L av (σ.b n))]):=hg.trans (Gr.app _ _)
 have hlen:(farr n fun i => rblk (g.L i) (g.A i) (σ.b i)).length = n * 5:=farr_len (z:=5) fun _ _ _ => rfl
 have hml:=h.gr.len
 have hml2:=hg.len
 have qlt:∀ b,a = some ⟨b,0,some 5⟩ → b = g.q ∧ m0.length ≤ b ∧ b < M.length ∧ lab b = some .blocks:=by
  rintro b rfl
  rcases h.q_ with ⟨h1,_⟩ | ⟨h1,h2,h3⟩
  ·cases h1
  ·simp only [Option.some.injEq,Addr.mk.injEq,and_true] at h1
   subst h1
   exact ⟨rfl,(h.new _ (by rw [h3];simp)).1,get_lt h2,h3⟩
 obtain ⟨M3,a1,a2,a3,a4,a5⟩:=appM_any (z:=5) (y:=56) (m:=M2 ++ [.live (rblk L av (σ.b n))]) (a:=a) (n:=n) (l:=1) (old:=farr n fun i => rblk (g.L i) (g.A i) (σ.b i)) (new:=rblk L av (σ.b n)) (by
  rcases h.q_ with ⟨h1,h2⟩ | ⟨h1,h2,_⟩
  ·refine .inl ⟨h1,h2,?_⟩
   subst h2;rfl
  ·exact .inr ⟨g.q,h1,hgM.get h2,hlen⟩) (by omega) (by unfold most;omega) (by unfold most;omega)
 have a5:=a5 m0 (h.gr.trans hgM) fun b hb => (qlt b hb).2.1
 rw [l3] at a1 a2 a3
 have rne:∀ b,a = some ⟨b,0,some 5⟩ → m0.length ≠ b:=fun b hb he => by
  have:=(qlt b hb).2.2.2
  rw [← he,h.r_.2] at this;cases this
 have r3:M3[m0.length]? = some (.live (.slice a n n :: hd)):=by
  have:=get_lt h.r_.1
  rw [a4 _ (by omega) rne];exact hgM.get h.r_.1
 refine ⟨M3,a1,r3,?_⟩
 let lab':Nat → Option Lab:=fun p => if p = M2.length + 1 then some .blocks else if M.length ≤ p then (lb p).map (Lab.of n) else if a = some ⟨p,0,some 5⟩ then none else lab p
 let g':RG:=⟨M2.length + 1,upd g.L n L,upd g.N n N,upd g.T n T,upd g.A n av⟩
 have lold:∀ p,p < M.length → a ≠ some ⟨p,0,some 5⟩ → lab' p = lab p:=fun p hp ha => by
  show (if _ then _ else _) = _
  rw [if_neg (by omega),if_neg (by omega),if_neg ha]
 have lnew:∀ p o,lb p = some o → lab' p = some (.of n o):=fun p o hp => by
  have:=hnew p (by rw [hp];simp)
  show (if _ then _ else _) = _
  rw [if_neg (by omega),if_pos this.1,hp];rfl
 have keep:∀ p o,M[p]? = some o → a ≠ some ⟨p,0,some 5⟩ → p ≠ m0.length → (wr M3 m0.length (.slice (some ⟨M2.length + 1,0,some 5⟩) (n + 1) (n + 1) :: hd))[p]? = some o:=fun p o hp ha hn => by
  have:=get_lt hp
  rw [wr_ne (Ne.symm hn),a4 p (by omega) fun b hb he => ha (by rw [he];exact hb)];exact hgM.get hp
 have keep2:∀ p o,M2[p]? = some o → M.length ≤ p → (wr M3 m0.length (.slice (some ⟨M2.length + 1,0,some 5⟩) (n + 1) (n + 1) :: hd))[p]? = some o:=fun p o hp hle => by
  have:=get_lt hp
  have:=get_lt h.r_.1
  rw [wr_ne (by omega),a4 p (by omega) fun b hb he => by have:=(qlt b hb).2.2.1;omega];exact get_grow hp
 have notq:∀ p o,lab p = some o → o ≠ .blocks → a ≠ some ⟨p,0,some 5⟩:=fun p o hp ho ha => by
  have:=(qlt p ha).2.2.2
  rw [hp] at this;cases this;exact ho rfl
 have notr:∀ p o,lab p = some o → o ≠ .chip → p ≠ m0.length:=fun p o hp ho he => by
  rw [he,h.r_.2] at hp;cases hp;exact ho rfl
 refine ⟨lab',g',⟨a5.wr (Nat.le_refl _) _,⟨wr_get r3,?_⟩,.inr ⟨rfl,?_,?_⟩,fun i h0 h1 => ?_,fun i j h0 h1 h2 h3 => ?_,fun i j h0 h1 h2 h3 => ?_,fun i h0 h1 => ?_,fun p hp => ?_⟩⟩
 ·rw [lold _ (get_lt h.r_.1) (fun hb => rne _ hb rfl)];exact h.r_.2
 ·have:=get_lt h.r_.1
  show (wr M3 m0.length _)[M2.length + 1]? = _
  rw [wr_ne (by omega),a3,farr_succ]
  congr 3
  ·refine farr_congr fun i _ h1 => ?_
   show _ = rblk (upd g.L n L i) (upd g.A n av i) (σ.b i)
   rw [upd_ne (by omega),upd_ne (by omega)]
  ·show _ = rblk (upd g.L n L n) (upd g.A n av n) (σ.b n)
   rw [upd_same,upd_same]
 ·show (if _ then _ else _) = _
  rw [if_pos rfl]
 ·by_cases hi:i = (n:Int)
  ·subst hi
   show (wr M3 m0.length _)[upd g.L n L n]? = some (.live (farr 32 fun j => rch (upd g.N n N n j) (upd g.T n T n j) ((σ.b n).ch j))) ∧ lab' (upd g.L n L n) = _
   rw [upd_same,upd_same,upd_same]
   exact ⟨keep2 _ _ hL.1 (hnew _ (by rw [hL.2];simp)).1,lnew _ _ hL.2⟩
  ·have:=h.l_ i h0 (by omega)
   show (wr M3 m0.length _)[upd g.L n L i]? = some (.live (farr 32 fun j => rch (upd g.N n N i j) (upd g.T n T i j) ((σ.b i).ch j))) ∧ lab' (upd g.L n L i) = _
   rw [upd_ne hi,upd_ne hi,upd_ne hi]
   have q1:=notq _ _ this.2 (by simp)
   exact ⟨keep _ _ this.1 q1 (notr _ _ this.2 (by simp)),by rw [lold _ (get_lt this.1) q1];exact this.2⟩
 ·by_cases hi:i = (n:Int)
  ·subst hi
   show (wr M3 m0.length _)[(upd g.N n N n j).1]? = _ ∧ lab' (upd g.N n N n j).1 = _
   rw [upd_same]
   have:=hN j h2 h3
   exact ⟨keep2 _ _ this.1 (hnew _ (by rw [this.2];simp)).1,lnew _ _ this.2⟩
  ·have:=h.n_ i j h0 (by omega) h2 h3
   show (wr M3 m0.length _)[(upd g.N n N i j).1]? = _ ∧ lab' (upd g.N n N i j).1 = _
   rw [upd_ne hi]
   have q1:=notq _ _ this.2 (by simp)
   exact ⟨keep _ _ this.1 q1 (notr _ _ this.2 (by simp)),by rw [lold _ (get_lt this.1) q1];exact this.2⟩
 ·by_cases hi:i = (n:Int)
  ·subst hi
   show (wr M3 m0.length _)[(upd g.T n T n j).1]? = _ ∧ lab' (upd g.T n T n j).1 = _
   rw [upd_same]
   have:=hT j h2 h3
   exact ⟨keep2 _ _ this.1 (hnew _ (by rw [this.2];simp)).1,lnew _ _ this.2⟩
  ·have:=h.t_ i j h0 (by omega) h2 h3
   show (wr M3 m0.length _)[(upd g.T n T i j).1]? = _ ∧ lab' (upd g.T n T i j).1 = _
   rw [upd_ne hi]
   have q1:=notq _ _ this.2 (by simp)
   exact ⟨keep _ _ this.1 q1 (notr _ _ this.2 (by simp)),by rw [lold _ (get_lt this.1) q1];exact this.2⟩
 ·show AtOk σ.steps (upd g.A n av i) _
  by_cases hi:i = (n:Int)
  ·subst hi;rw [upd_same];exact hA
  ·rw [upd_ne hi];exact h.at_ i h0 (by omega)
 ·rw [wr_len,a2]
  have hp:(if p = M2.length + 1 then some Lab.blocks else if M.length ≤ p then (lb p).map (Lab.of n) else if a = some ⟨p,0,some 5⟩ then none else lab p) ≠ none:=hp
  split at hp
  ·omega
  ·split at hp
   ·have:=hnew p (fun h => hp (by rw [h];rfl));omega
   ·split at hp
    ·exact absurd rfl hp
    ·have:=h.new p hp;omega
theorem refNew_ok (k:Nat) (hk:64 < k) (m0:Mem):Ok (patinaref05_New k m0) fun x => x.1 = some ⟨m0.length,0,none⟩ ∧ ∃ lab g,RefX x.2 m0.length lab g fresh ∧ Gr m0 x.2 ∧ ∀ p,lab p ≠ none → m0.length ≤ p:=by
 unfold patinaref05_New
 simp (disch:=omega) only [SX,plus]
 refine patinaref05_New_l0_rule k _ (fun r x1 x2 M => (⟨m0.length,0,none⟩:Addr) = x1 ∧ ∃ (n:Nat) (a:Option Addr) (lab:Nat → Option Lab) (g:RG),x2 = n ∧ n + r = 12 ∧ Nw m0 M n a lab g fresh [.bool true,.int .i64 (-1),.int .i64 0]) ?_ k 12 _ _ _ (by omega)
  ⟨rfl,0,none,fun p => if p = m0.length then some .chip else none,⟨0,fun _ => 0,fun _ _ => (0,false),fun _ _ => (0,false),fun _ => 0⟩,rfl,rfl,⟨Gr.app _ _,⟨get_last rfl,if_pos rfl⟩,.inl ⟨rfl,rfl⟩,fun i h0 h1 => by omega,fun i j h0 h1 => by omega,fun i j h0 h1 => by omega,fun i h0 h1 => by omega,fun p hp => by
   by_cases q1:p = m0.length
   ·subst q1;simp
   ·exact absurd (if_neg q1) hp⟩⟩
 rintro r nx _ _ M ⟨rfl,n,a,lab,g,rfl,hr,hN⟩ hnx
 unfold patinaref05_New_l0_b
 by_cases hn:(n:Int) < 12
 ·have e1:ldSl M ⟨m0.length,0,none⟩ = some ⟨a,n,n⟩:=ldSl_of hN.r_.1 rfl
  simp (disch:=omega) only [SX,plus,decide_eq_true hn,e1]
  refine .bind (refChunks_ok k hk M) ?_
  rintro ⟨_,M2⟩ ⟨a',lb,N,T,rfl,hC⟩
  simp only at hC ⊢
  rcases hC.row with ⟨_,h0⟩ | ⟨L,rfl,hL1,hL2,hL3⟩
  ·omega
  obtain ⟨M3,a1,a2,lab',g',a3⟩:=hN.next (L:=L) (N:=N) (T:=T) (av:=-1) (lb:=lb) (sp:=none) hC.gr ⟨hL2,hL3⟩ hC.n_ hC.t_ ⟨.inl rfl,by omega,by omega⟩ hC.new (by omega)
  have hlit:([Value.slice (some ⟨L,0,some 4⟩) 32 32,.int .i64 0,.bool false,.int .i64 (-1),.bool false]:List Value) = rblk L (-1) (fresh.b n):=rfl
  have r5:rdSl (M2 ++ [.live (rblk L (-1) (fresh.b n))]) (some ⟨M2.length,0,none⟩) 1 5 = some (rblk L (-1) (fresh.b n)):=rdSl_all (get_last rfl) rfl
  have s1:=st_wr (sp:=none) (off:=0) (v:=.slice (some ⟨M2.length + 1,0,some 5⟩) (n + 1) (n + 1)) a2 (by simp)
  have hset:(Value.slice a n n :: [.bool true,.int .i64 (-1),.int .i64 0]).set 0 (.slice (some ⟨M2.length + 1,0,some 5⟩) (n + 1) (n + 1)) = .slice (some ⟨M2.length + 1,0,some 5⟩) (n + 1) (n + 1) :: [.bool true,.int .i64 (-1),.int .i64 0]:=rfl
  rw [hset] at s1
  have e2:ldSl M2 ⟨m0.length,0,none⟩ = some ⟨a,n,n⟩:=ldSl_of (hC.gr.get hN.r_.1) rfl
  have e3:ldSl (M2 ++ [.live (rblk L (-1) (fresh.b n))]) ⟨m0.length,0,none⟩ = some ⟨a,n,n⟩:=ldSl_of (get_grow (hC.gr.get hN.r_.1)) rfl
  have nb:Nat.beq n n = true:=Nat.beq_refl n
  simp (disch:=omega) only [SX,plus,hlit,r5,a1,s1,e2,e3,nb,Bool.and_self,decide_true]
  exact hnx (r - 1) _ _ _ (by omega) ⟨rfl,n + 1,_,lab',g',by omega,by omega,a3⟩
 ·obtain rfl:n = 12:=by omega
  simp (disch:=omega) only [SX,plus]
  exact .some ⟨rfl,lab,g,hN.done,hN.gr,fun p hp => (hN.new p hp).1⟩
end Go.Proofs.YtchonnaoojpdoaaGreat
set_option linter.unusedVariables false
set_option linter.unusedSectionVars false
set_option linter.unusedSimpArgs false
namespace Go.Proofs.YtchonnaoojpdoaaGreat
open Go.Mx
theorem Wf.mono {n n':Nat} {σ:ChipS} (h:Wf n σ) (hn:n ≤ n'):Wf n' σ:=⟨by have:=h.steps;omega,h.bud,fun x => by have:=h.rd x;omega,h.bf,h.by_,h.ws⟩
theorem damage_blank:blank.damage = 0:=by
 unfold ChunkS.damage blank
 have:∀ n,cntNe (fun _ => 255) (fun _ => 255) n = 0:=by
  intro n
  induction n with
  | zero => rfl
  | succ n ih => rw [cntNe_succ,ih];simp
 exact this 64
theorem damage_same (f:Int → Int) (is:Bool) (w:Int):(⟨f,f,is,w⟩:ChunkS).damage = 0:=by
 show cntNe f f 64 = 0
 have:∀ n,cntNe f f n = 0:=by
  intro n
  induction n with
  | zero => rfl
  | succ n ih => rw [cntNe_succ,ih];simp
 exact this 64
theorem damage_le (c:ChunkS):0 ≤ c.damage ∧ c.damage ≤ 64:=by
 have:=cntNe_le c.now c.tru 64
 exact this
theorem byt255:Byt fun _ => 255:=.const (v:=255) (by decide) (by decide)
theorem Wf.fresh:Wf 0 fresh:=⟨⟨by decide,by decide⟩,⟨by decide,by decide⟩,fun x => ⟨Int.le_refl 0,Int.le_refl 0⟩,fun x => ⟨Int.le_refl 0,by show (0:Int) < 9223372036854775808;decide⟩,
 fun x j => ⟨byt255,byt255⟩,fun x j => ⟨by show blank.damage ≤ 0;rw [damage_blank];decide,by show (0:Int) ≤ 64;decide⟩⟩
theorem Wf.updB {n:Nat} {σ:ChipS} (h:Wf n σ) {x:Int} {β:BlockS} (h1:0 ≤ β.reads ∧ β.reads ≤ n) (h2:0 ≤ β.before ∧ β.before < 9223372036854775808) (h3:∀ j,Byt (β.ch j).now ∧ Byt (β.ch j).tru) (h4:∀ j,(β.ch j).damage ≤ (β.ch j).worst ∧ (β.ch j).worst ≤ 64):Wf n (σ.updB x β):=by
 refine ⟨h.steps,h.bud,fun y => ?_,fun y => ?_,fun y j => ?_,fun y j => ?_⟩ <;> unfold ChipS.updB Mx.upd <;> simp only <;> split
 ·exact h1
 ·exact h.rd y
 ·exact h2
 ·exact h.bf y
 ·exact h3 j
 ·exact h.by_ y j
 ·exact h4 j
 ·exact h.ws y j
theorem Wf.put {n:Nat} {σ:ChipS} (h:Wf n σ) {p k:Int} {c:ChunkS} (h3:Byt c.now ∧ Byt c.tru) (h4:c.damage ≤ c.worst ∧ c.worst ≤ 64):Wf n (σ.put p k c):=by
 refine h.updB (h.rd _) (h.bf _) (fun j => ?_) fun j => ?_ <;> unfold BlockS.updC Mx.upd <;> simp only <;> split
 ·exact h3
 ·exact h.by_ _ j
 ·exact h4
 ·exact h.ws _ j
theorem Wf.step {n:Nat} {σ:ChipS} (h:Wf n σ):Wf (n + 1) σ.step.2:=by
 have h1:=h.steps
 have h2:=h.bud
 have h3:=fun x => h.rd x
 unfold ChipS.step
 split
 ·split
  ·exact ⟨by simp only;omega,h.bud,fun x => by have:=h3 x;simp only;omega,h.bf,h.by_,h.ws⟩
  ·exact ⟨by simp only;omega,by simp only;omega,fun x => by have:=h3 x;simp only;omega,h.bf,h.by_,h.ws⟩
 ·exact ⟨by simp only;omega,h.bud,fun x => by have:=h3 x;simp only;omega,h.bf,h.by_,h.ws⟩
theorem Wf.worn {n:Nat} {σ:ChipS} (h:Wf n σ) (x:Int):Wf n (σ.updB x (σ.b x).worn):=by
 have hb:=h.bf x
 refine h.updB ?_ ?_ ?_ ?_ <;> unfold BlockS.worn <;> split
 ·exact h.rd x
 ·exact h.rd x
 ·simp only;omega
 ·exact h.bf x
 ·exact h.by_ x
 ·exact h.by_ x
 ·exact h.ws x
 ·exact h.ws x
theorem Wf.write {n:Nat} {σ:ChipS} (h:Wf n σ) (p q:Int) (l:Nat) (w:Nat → GF):Wf (n + 1) (σ.write p q l (byI w)).2:=by
 have h0:=h.mono (Nat.le_succ n)
 unfold ChipS.write
 split
 ·exact h0
 split
 ·exact h0
 split
 ·exact h0
 split
 ·exact h0
 split
 ·exact h.step
 split
 ·exact h.step.worn _
 ·exact (h.step.worn _).put ⟨.ofW w,.ofW w⟩ (by rw [damage_same];simp only;omega)
theorem Wf.erase {n:Nat} {σ:ChipS} (h:Wf n σ) (x:Int):Wf (n + 1) (σ.erase x).2:=by
 have h0:=h.mono (Nat.le_succ n)
 unfold ChipS.erase
 split
 ·exact h0
 split
 ·exact h0
 split
 ·exact h.step
 split
 ·exact h.step.updB (h.step.rd x) (h.step.bf x) (h.step.by_ x) (h.step.ws x)
 ·exact h.step.updB (by show (0:Int) ≤ 0 ∧ (0:Int) ≤ _;omega) (h.step.bf x) (fun j => ⟨byt255,byt255⟩) fun j => ⟨by show blank.damage ≤ 0;rw [damage_blank];decide,by show (0:Int) ≤ 64;decide⟩
theorem Wf.flip {n:Nat} {σ:ChipS} (h:Wf n σ) (p b:Int) (hb:0 ≤ b):Wf n (σ.flip p b):=by
 have h1:=h.by_ (p / 8) (p % 8 * 4 + b / 512)
 have h2:=h.ws (p / 8) (p % 8 * 4 + b / 512)
 unfold ChipS.flip
 have hd:=damage_le (flipC (σ.at_ p (b / 512)) (b / 8 % 64) (b % 8))
 refine h.put ⟨?_,h1.2⟩ ?_
 ·have hx:=xor_byte ((σ.at_ p (b / 512)).now (b / 8 % 64)) (shlI .u8 1 (b % 8))
  exact Byt.upd h1.1 (by omega) hx.1 hx.2
 ·show (flipC (σ.at_ p (b / 512)) (b / 8 % 64) (b % 8)).damage ≤ maxI (σ.at_ p (b / 512)).worst (flipC (σ.at_ p (b / 512)) (b / 8 % 64) (b % 8)).damage ∧ maxI (σ.at_ p (b / 512)).worst (flipC (σ.at_ p (b / 512)) (b / 8 % 64) (b % 8)).damage ≤ 64
  have h3:(σ.at_ p (b / 512)).worst ≤ 64:=h2.2
  unfold maxI
  split <;> omega
theorem Wf.readd {n:Nat} {σ:ChipS} (h:Wf n σ) (p:Int):Wf (n + 1) (σ.readd p):=by
 have h1:=h.rd (p / 8)
 have h0:=h.mono (Nat.le_succ n)
 refine h0.updB ?_ (h.bf _) (h.by_ _) (h.ws _)
 show 0 ≤ (σ.b (p / 8)).reads + 1 ∧ (σ.b (p / 8)).reads + 1 ≤ _
 omega
theorem Wf.failE {n:Nat} {σ:ChipS} (h:Wf n σ) (x:Int):Wf n (σ.updB x { σ.b x with atErase:=true }):=h.updB (h.rd _) (h.bf _) (h.by_ _) (h.ws _)
theorem Wf.failP {n:Nat} {σ:ChipS} (h:Wf n σ) (x:Int) {v:Int} (hv:0 ≤ v):Wf n (σ.updB x { σ.b x with before:=(if v ≤ 9223372036854775806 then v else 9223372036854775806) + 1 }):=by
 refine h.updB (h.rd _) ?_ (h.by_ _) (h.ws _)
 show 0 ≤ (if v ≤ 9223372036854775806 then v else 9223372036854775806) + 1 ∧ (if v ≤ 9223372036854775806 then v else 9223372036854775806) + 1 < 9223372036854775808
 split <;> omega
theorem Wf.cut {n:Nat} {σ:ChipS} (h:Wf n σ) {v:Int} (hv:0 ≤ v ∧ v < 9223372036854775808):Wf n (if σ.off = true then σ else { σ with cut:=true,budget:=v }):=by
 split
 ·exact h
 ·exact ⟨h.steps,hv,h.rd,h.bf,h.by_,h.ws⟩
theorem Wf.power {n:Nat} {σ:ChipS} (h:Wf n σ):Wf n { σ with off:=false,cut:=false,budget:=0 }:=⟨h.steps,by simp only;omega,h.rd,h.bf,h.by_,h.ws⟩
theorem Wf.page {n:Nat} {σ:ChipS} (h:Wf n σ) (p:Int):∃ W:Nat → GF,(∀ (q i:Nat),q < 4 → i < 64 → (σ.at_ p q).now i = ((W (q * 64 + i)).v:Int)) ∧ arr .u8 256 (σ.page p) = bys 256 W:=by
 have hw:∀ q:Int,∃ w:Nat → GF,∀ i:Int,0 ≤ i → (σ.at_ p q).now i = byI w i:=fun q => (h.by_ (p / 8) (p % 8 * 4 + q)).1
 let W:Nat → GF:=fun i => (Classical.choose (hw ((i / 64:Nat):Int))) (i % 64)
 have h1:∀ (q i:Nat),q < 4 → i < 64 → (σ.at_ p q).now i = ((W (q * 64 + i)).v:Int):=fun q i hq hi => by
  have:=Classical.choose_spec (hw (q:Int)) i (by omega)
  rw [this]
  show _ = (((Classical.choose (hw (((q * 64 + i) / 64:Nat):Int))) ((q * 64 + i) % 64)).v:Int)
  rw [show (q * 64 + i) / 64 = q by omega,show (q * 64 + i) % 64 = i by omega]
  rfl
 refine ⟨W,h1,arr_congr fun i h0 h2 => ?_⟩
 obtain ⟨j,rfl⟩:=Int.eq_ofNat_of_zero_le h0
 have h2:j < 256:=by omega
 have:=h1 (j / 64) (j % 64) (by omega) (by omega)
 show (σ.at_ p ((j:Int) / 64)).now ((j:Int) % 64) = ((W ((j:Int)).toNat).v:Int)
 rw [show ((j:Int) / 64) = ((j / 64:Nat):Int) by omega,show ((j:Int) % 64) = ((j % 64:Nat):Int) by omega,this,Int.toNat_natCast,show j / 64 * 64 + j % 64 = j by omega]
def others (m:Mem) (c:Nat):Heap:=((List.range m.length).filter fun p => p != c).map fun p => (p,m.getD p .dead)
theorem others_get {m:Mem} {c p:Nat} (hp:p < m.length) (hc:p ≠ c):∃ i:Nat,(others m c)[i]? = some (p,m.getD p .dead):=by
 have:(p,m.getD p .dead) ∈ others m c:=List.mem_map.2 ⟨p,List.mem_filter.2 ⟨List.mem_range.2 hp,by simpa using hc⟩,rfl⟩
 obtain ⟨i,hi⟩:=List.mem_iff_getElem?.1 this
 exact ⟨i,hi⟩
theorem getD_get {m:Mem} {p:Nat} (hp:p < m.length):m[p]? = some (m.getD p .dead):=by
 rw [List.getD_eq_getElem?_getD,List.getElem?_eq_getElem hp];rfl
theorem others_nd (m:Mem) (c:Nat):((others m c).map (·.1)).Nodup:=by
 unfold others
 rw [List.map_map]
 have:((fun x:Nat × MObj => x.1) ∘ fun p => (p,m.getD p .dead)) = id:=rfl
 rw [this,List.map_id]
 exact List.nodup_range.sublist List.filter_sublist
theorem own_all {m:Mem} {c:Nat} {o:MObj} (h:m[c]? = some o):Mx.Own m ((c,o) :: others m c):=by
 refine ⟨?_,?_⟩
 ·rw [List.map_cons,List.nodup_cons]
  refine ⟨fun hm => ?_,others_nd m c⟩
  obtain ⟨x,hx,he⟩:=List.mem_map.1 hm
  obtain ⟨p,hp,rfl⟩:=List.mem_map.1 hx
  have:=(List.mem_filter.1 hp).2
  simp only at he
  simp [he] at this
 ·intro x hx
  rcases List.mem_cons.1 hx with rfl | hx
  ·exact h
  ·obtain ⟨p,hp,rfl⟩:=List.mem_map.1 hx
   exact getD_get (List.mem_range.1 (List.mem_filter.1 hp).1)
theorem own_none (m:Mem):Mx.Own m (others m m.length):=by
 refine ⟨others_nd m _,fun x hx => ?_⟩
 obtain ⟨p,hp,rfl⟩:=List.mem_map.1 hx
 exact getD_get (List.mem_range.1 (List.mem_filter.1 hp).1)
theorem Own.keeps {m m':Mem} {c:Nat} {X:Heap} (h:Mx.Own m' (X ++ others m c)):∀ p,p < m.length → p ≠ c → m'[p]? = m[p]?:=fun p hp hc => by
 obtain ⟨i,hi⟩:=others_get hp hc
 rw [h.back.at i hi,getD_get hp]
theorem Own.far {m m':Mem} {c d:Nat} {o:MObj} {X:Heap} (h:Mx.Own m' ((d,o) :: (X ++ others m c))) (hc:∀ x ∈ X,x.1 = c → True):∀ p,p < m.length → p ≠ c → d ≠ p:=fun p hp hc he => by
 obtain ⟨i,hi⟩:=others_get hp hc
 have hmem:(p,m.getD p .dead) ∈ X ++ others m c:=List.mem_append_right _ (List.mem_of_getElem? hi)
 have:=h.nd
 rw [List.map_cons,List.nodup_cons] at this
 exact this.1 (List.mem_map.2 ⟨_,hmem,he.symm⟩)
theorem keeps_len {m m':Mem} {c:Nat} (h:∀ p,p < m.length → p ≠ c → m'[p]? = m[p]?) (hc:m.length ≤ c ∨ c < m'.length):m.length ≤ m'.length:=by
 rcases Nat.lt_or_ge m'.length m.length with h1 | h1
 ·exfalso
  by_cases h2:m.length - 1 = c
  ·omega
  ·have:=h (m.length - 1) (by omega) h2
   rw [List.getElem?_eq_none (by omega),List.getElem?_eq_getElem (by omega)] at this
   cases this
 ·exact h1
end Go.Proofs.YtchonnaoojpdoaaGreat
set_option linter.unusedVariables false
set_option linter.unusedSectionVars false
set_option linter.unusedSimpArgs false
namespace Go.Proofs.YtchonnaoojpdoaaGreat
open Go.Mx
theorem chipRead_no (k:Nat) {m:Mem} {c:Nat} {p:Int} (hp:¬ (0 ≤ p ∧ p < 96)):nand_Chip_Read k (some ⟨c,0,none⟩) p m = some (⟨none,0,0⟩,errC 1,m):=by
 unfold nand_Chip_Read
 rw [nand_at_is,if_neg (by unfold isAt;omega)]
 simp (disch:=omega) only [SX,plus,isNil_errC]
theorem chipRead_all (k:Nat) (hk:100 < k) {n:Nat} {m:Mem} {c:Nat} {σ:ChipS} (h:m[c]? = some (.live (chipC σ))) (hw:Wf n σ) (hn:n < 400000000000000) (p:Int) :
 ∃ (R0:RA) (n0:Nat) (w0:Nat → GF) (e:Int) (σ':ChipS) (m':Mem),nand_Chip_Read k (some ⟨c,0,none⟩) p m = some (⟨rowA R0,n0,n0⟩,errC e,m') ∧ m'[c]? = some (.live (chipC σ')) ∧ m.length ≤ m'.length ∧ (∀ p,p < m.length → p ≠ c → m'[p]? = m[p]?) ∧
  RowLive m' R0 n0 n0 (fun u => ∀ k,k < n0 → u k = w0 k) ∧ (∀ D,rowD R0 = some D → m.length ≤ D) ∧ n0 < 1000 ∧ 0 ≤ e ∧ e < 20 ∧ Wf (n + 1) σ' ∧
  ((¬ (0 ≤ p ∧ p < 96) ∧ R0 = none ∧ n0 = 0 ∧ e = 1 ∧ σ' = σ) ∨ ((0 ≤ p ∧ p < 96) ∧ σ.off = true ∧ R0 = none ∧ n0 = 0 ∧ e = 7 ∧ σ' = σ) ∨
    ((0 ≤ p ∧ p < 96) ∧ σ.off = false ∧ (∃ D,R0 = some (D,false)) ∧ n0 = 256 ∧ e = 0 ∧ σ' = σ.readd p ∧ (∀ (q i:Nat),q < 4 → i < 64 → (σ.at_ p q).now i = ((w0 (q * 64 + i)).v:Int)))):=by
 by_cases hp:0 ≤ p ∧ p < 96
 ·cases ho:σ.off with
  | true => exact ⟨none,0,fun _ => 0,7,σ,m,chipRead_off k h hp.1 hp.2 ho,h,Nat.le_refl _,fun _ _ _ => rfl,rfl,(fun D h => nomatch h),by omega,by omega,by omega,hw.mono (by omega),.inr (.inl ⟨hp,rfl,rfl,rfl,rfl,rfl⟩)⟩
  | false =>
   have hr:=hw.rd (p / 8)
   obtain ⟨W,h1,h2⟩:=hw.page p
   obtain ⟨⟨sl,e,m'⟩,e1,d,rfl,rfl,hO⟩:=chipRead_ok k hk (own_all h) hp.1 hp.2 ho ⟨hr.1,by omega⟩
   simp only at hO
   have hc':=hO.at 1 rfl
   have hd':=hO.at 0 rfl
   have hne:d ≠ c:=by
    intro he
    have:=hO.nd
    rw [List.map_cons,List.nodup_cons] at this
    exact this.1 (by rw [List.map_cons];simp [he])
   have hk':=Own.keeps (m:=m) (c:=c) (X:=[(d,.live (arr .u8 256 (σ.page p))),(c,.live (chipC (σ.readd p)))]) hO
   have hln:=keeps_len hk' (.inr (get_lt hc'))
   have hdl:m.length ≤ d:=by
    rcases Nat.lt_or_ge d m.length with h3 | h3
    ·exact absurd rfl (Own.far (m:=m) (c:=c) (d:=d) (X:=[(c,.live (chipC (σ.readd p)))]) hO (fun _ _ _ => trivial) d h3 hne)
    ·exact h3
   rw [h2] at hd'
   exact ⟨some (d,false),256,W,0,σ.readd p,m',e1,hc',hln,hk',⟨W,hd',fun _ _ => rfl,Nat.le_refl _,fun _ => rfl⟩,(fun D h => by cases h;exact hdl),by omega,by omega,by omega,hw.readd p,.inr (.inr ⟨hp,rfl,⟨d,rfl⟩,rfl,rfl,rfl,h1⟩)⟩
 ·exact ⟨none,0,fun _ => 0,1,σ,m,chipRead_no k hp,h,Nat.le_refl _,fun _ _ _ => rfl,rfl,(fun D h => nomatch h),by omega,by omega,by omega,hw.mono (by omega),.inl ⟨hp,rfl,rfl,rfl,rfl⟩⟩
theorem nand_Flip_all (k:Nat) (hk:64 < k) {m:Mem} {c:Nat} {σ:ChipS} (h:m[c]? = some (.live (chipC σ))) (p b:Int) :
 nand_Chip_Flip k (some ⟨c,0,none⟩) p b m = some (errC (if 0 ≤ p ∧ p < 96 ∧ 0 ≤ b ∧ b < 2048 then 0 else 1),wr m c (chipC (if 0 ≤ p ∧ p < 96 ∧ 0 ≤ b ∧ b < 2048 then σ.flip p b else σ))):=by
 by_cases hh:0 ≤ p ∧ p < 96 ∧ 0 ≤ b ∧ b < 2048
 ·rw [if_pos hh,if_pos hh]
  exact nand_Flip_is k hk h hh.1 hh.2.1 hh.2.2.1 hh.2.2.2
 ·rw [if_neg hh,if_neg hh,wr_same h]
  unfold nand_Chip_Flip
  by_cases h0:b < 0
  ·simp (disch:=omega) only [SX,plus,decide_eq_true h0];rfl
  ·by_cases h1:b ≥ 2048
   ·simp (disch:=omega) only [SX,plus,decide_eq_false h0,decide_eq_true h1];rfl
   ·have hq:IntKind.wrap .i64 (Int.tdiv (IntKind.wrap .i64 (Int.tdiv b 8)) 64) = b / 512:=by simp (disch:=omega) only [SX,plus];omega
    rw [hq,nand_at_is,if_neg (by unfold isAt;omega)]
    simp (disch:=omega) only [SX,plus,decide_eq_false h0,decide_eq_false h1,isNil_errC]
theorem step_code (σ:ChipS):0 ≤ σ.step.1 ∧ σ.step.1 < 20:=by unfold ChipS.step;split <;> (try split) <;> simp
theorem write_code (σ:ChipS) (p q:Int) (n:Nat) (f:Int → Int):0 ≤ (σ.write p q n f).1 ∧ (σ.write p q n f).1 < 20:=by
 have:=step_code σ
 unfold ChipS.write
 repeat' split
 all_goals first | exact this | (simp only;omega)
theorem erase_code (σ:ChipS) (x:Int):0 ≤ (σ.erase x).1 ∧ (σ.erase x).1 < 20:=by
 have:=step_code σ
 unfold ChipS.erase
 repeat' split
 all_goals first | exact this | (simp only;omega)
theorem own_gr {m m':Mem} (h:Mx.Own m' (others m m.length)):Gr m m':=by
 have hk:=Own.keeps (m:=m) (c:=m.length) (X:=[]) h
 exact Ch.gr ⟨keeps_len hk (.inl (Nat.le_refl _)),fun p hp _ => hk p hp (by omega)⟩
theorem newG (k:Nat) (hk:100 < k) (m:Mem):Ok (nand_New k m) fun r => ∃ c,r.1 = some ⟨c,0,none⟩ ∧ Gr m r.2 ∧ m.length ≤ c ∧ r.2[c]? = some (.live (chipC fresh)):=by
 refine (chipNew_ok k hk (own_none m)).mono ?_
 rintro ⟨_,m'⟩ ⟨c,rfl,hO⟩
 simp only at hO
 refine ⟨c,rfl,own_gr hO.tail,?_,hO.at 0 rfl⟩
 rcases Nat.lt_or_ge c m.length with h3 | h3
 ·exact absurd rfl (Own.far (m:=m) (c:=m.length) (d:=c) (X:=[]) hO (fun _ _ _ => trivial) c h3 (by omega))
 ·exact h3
end Go.Proofs.YtchonnaoojpdoaaGreat
set_option linter.unusedVariables false
set_option linter.unusedSectionVars false
set_option linter.unusedSimpArgs false
namespace Go.Proofs.YtchonnaoojpdoaaGreat
open Go.Mx
theorem Frm.keep {m m':Mem} {f:Nat} (h:Frm m f) (hk:∀ (p:Nat) (cs:List Value),m[p]? = some (MObj.live cs) → cs.length ≠ 3 → cs.length ≠ 49972 → m'[p]? = m[p]?):Frm m' f:=by
 obtain ⟨cd,h1,g,b,h2,h3,h4⟩:=h
 refine ⟨cd,?_,g,b,?_,?_,?_⟩
 ·rw [hk f _ h1 (by simp) (by simp)];exact h1
 ·rw [hk cd _ h2 (by simp) (by simp)];exact h2
 ·have e:fldR.length = 769:=by unfold fldR;rw [fieldC_len]
  rw [hk g _ h3 (by rw [e];omega) (by rw [e];omega)];exact h3
 ·rw [hk b _ h4 (by rw [bys_len];omega) (by rw [bys_len];omega)];exact h4
def medC (c f:Nat) (n:Int):List Value:=[.pointer (some ⟨c,0,none⟩),.pointer (some ⟨f,0,none⟩),.int .i64 n]
structure MI (M:Mem) (mm c f:Nat) (σ:ChipS) (n:Int):Prop where
 med:M[mm]? = some (.live (medC c f n))
 chip:M[c]? = some (.live (chipC σ))
 frm:Frm M f
theorem MI.ne {M:Mem} {mm c f:Nat} {σ:ChipS} {n:Int} (h:MI M mm c f σ n):mm ≠ c:=fun he => by
 have h1:=h.med
 rw [he,h.chip] at h1
 simp only [Option.some.injEq,MObj.live.injEq] at h1
 have:=congrArg List.length h1
 rw [chipC_len] at this
 simp [medC] at this
theorem MI.grow {M M':Mem} {mm c f:Nat} {σ:ChipS} {n:Int} (h:MI M mm c f σ n) (hg:Gr M M'):MI M' mm c f σ n:=⟨hg.get h.med,hg.get h.chip,h.frm.grow hg⟩
def Cm (c mm:Nat) (m m':Mem):Prop:=Ch (fun p => p = c ∨ p = mm) m m'
theorem MI.step {M M':Mem} {mm c f:Nat} {σ σ':ChipS} {n n':Int} (h:MI M mm c f σ n) (hc:Cm c mm M M') (h1:M'[c]? = some (.live (chipC σ'))) (h2:M'[mm]? = some (.live (medC c f n'))):MI M' mm c f σ' n':=by
 refine ⟨h2,h1,h.frm.keep fun p cs hp h3 h4 => hc.get p (get_lt hp) ?_⟩
 rintro (rfl | rfl)
 ·rw [h.chip] at hp;cases hp;exact h4 (chipC_len _)
 ·rw [h.med] at hp;cases hp;exact h3 rfl
theorem mediaNew_ok (k:Nat) (hk:1000 < k) {m:Mem} {c:Nat} {σ:ChipS} (h:m[c]? = some (.live (chipC σ))):Ok (media_New k (some ⟨c,0,none⟩) m) fun r => ∃ mm f,r.1 = some ⟨mm,0,none⟩ ∧ Gr m r.2 ∧ m.length ≤ mm ∧ MI r.2 mm c f σ 0:=by
 unfold media_New
 refine .bind (frameNew_ok k hk m) ?_
 rintro ⟨_,m1⟩ ⟨f,rfl,hg,hf,hF⟩
 simp only at hg hF ⊢
 exact .some ⟨m1.length,f,rfl,hg.trans (Gr.app _ _),hg.len,get_last rfl,get_grow (hg.get h),hF.grow (Gr.app _ _)⟩
structure PgT where
 tagged:Bool
 tag:TagT
 sound:Bool
 n:Nat
 w:Nat → GF
 dmg:Nat
def pgC (p:PgT) (R:RA):List Value:=[.bool p.tagged,.int .i64 p.tag.place,.int .i64 p.tag.of_,.int .i64 p.tag.seq,.int .i64 p.tag.copy,.bool p.tag.lost,.bool p.sound,.slice (rowA R) p.n p.n,.int .i64 (p.dmg:Nat)]
def PgT.no (d:Nat):PgT:=⟨false,ztag,false,0,fun _ => 0,d⟩
noncomputable def mxm (W:Nat → GF):Nat → Nat
 | 0 => 0
 | k + 1 => if (msgS 256 W (k:Int)).e = 0 then max (mxm W k) (msgS 256 W (k:Int)).a else mxm W k
open Classical in
noncomputable def pgS (W:Nat → GF) (p:Int):PgT :=
 if (bodyS 256 W).e = 0 then (match tagD (bodyS 256 W).w with
  | none => .no (mxm W 4)
  | some t => if t.place = p then (if (dataS 256 W).e = 0 then ⟨true,t,true,(dataS 256 W).n,(dataS 256 W).w,mxm W 4⟩ else ⟨true,t,false,0,fun _ => 0,mxm W 4⟩) else .no (mxm W 4)) else .no (mxm W 4)
theorem bodyS_n {w:Nat → GF} (h:(bodyS 256 w).e = 0):(bodyS 256 w).n = 50:=by
 unfold bodyS at *
 rw [if_pos rfl] at *
 split
 ·rename_i u a hd
  rw [hd] at h
  simp only at h ⊢
  split
  ·rfl
  ·rename_i hm;rw [if_neg hm] at h;cases h
 ·rename_i hd;rw [hd] at h;cases h
theorem veqs_tag (t:TagT):veqs (tagC t) (tagC t) = true:=by
 simp [veqs,veq1,tagC]
def Rdd (M:Mem) (mm c f:Nat) (σ:ChipS) (n:Int) (p:Int) (r:List Value × Value × Mem):Prop :=
 ∃ (W:Nat → GF) (R:RA) (L:Nat),(∀ (q i:Nat),q < 4 → i < 64 → (σ.at_ p q).now i = ((W (q * 64 + i)).v:Int)) ∧ r.1 = pgC (pgS W p) R ∧ r.2.1 = .nilIface ∧
  RowLive r.2.2 R (pgS W p).n L (fun u => ∀ i,i < (pgS W p).n → u i = (pgS W p).w i) ∧ (∀ D,rowD R = some D → M.length ≤ D) ∧ Cm c mm M r.2.2 ∧ r.2.2[c]? = some (.live (chipC (σ.readd p))) ∧ r.2.2[mm]? = some (.live (medC c f (n + 1)))
theorem mediaRead_no (k:Nat) (hk:1000 < k) {M:Mem} {mm c f N:Nat} {σ:ChipS} {n:Int} (h:MI M mm c f σ n) (hw:Wf N σ) (hN:N < 400000000000000) (p:Int) (hp:¬ (0 ≤ p ∧ p < 96) ∨ σ.off = true) :
 Ok (media_Media_Read k (some ⟨mm,0,none⟩) p M) fun r => r.1 = pgC (.no 0) none ∧ r.2.1 = errC (if 0 ≤ p ∧ p < 96 then 7 else 1) ∧ Cm c mm M r.2.2 ∧ r.2.2[c]? = some (.live (chipC σ)) ∧ r.2.2[mm]? = some (.live (medC c f n)):=by
 unfold media_Media_Read
 have hz:([.bool false,.int .i64 0,.int .i64 0,.int .i64 0,.int .i64 0,.bool false,.bool false,.slice none 0 0,.int .i64 0]:List Value) = pgC (.no 0) none:=rfl
 have h1:=h.grow (Gr.app M [.live (pgC (.no 0) none)])
 have z1:(M ++ [MObj.live (pgC (.no 0) none)])[M.length]? = some (.live (pgC (.no 0) none)):=get_last rfl
 have l1:ldPtr (M ++ [.live (pgC (.no 0) none)]) ⟨mm,0,none⟩ = some (some ⟨c,0,none⟩):=ldPtr_of h1.med rfl
 have gM:=Gr.app M [.live (pgC (.no 0) none)]
 have ml:(M ++ [MObj.live (pgC (.no 0) none)]).length = M.length + 1:=by simp
 simp only [hz,Option.bind_some,plus,Nat.zero_add,l1]
 generalize M ++ [.live (pgC (.no 0) none)] = M1 at *
 obtain ⟨R0,n0,w0,e,σ',m2,e1,e2,e3,e4,e5,e6,e7,e8,e9,e10,e11⟩:=chipRead_all k (by omega) h1.chip hw hN p
 have clt:=get_lt h.chip
 have mlt:=get_lt h.med
 have ee:e = (if 0 ≤ p ∧ p < 96 then 7 else 1) ∧ σ' = σ ∧ m2 = m2:=by
  rcases e11 with ⟨c1,_,_,h2,h3⟩ | ⟨c1,c2,_,_,h2,h3⟩ | ⟨c1,c2,_⟩
  ·exact ⟨by rw [if_neg c1,h2],h3,rfl⟩
  ·exact ⟨by rw [if_pos c1,h2],h3,rfl⟩
  ·rcases hp with h5 | h5
   ·exact absurd c1 h5
   ·rw [c2] at h5;cases h5
 obtain ⟨rfl,rfl,_⟩:=ee
 have nn:isNil (errC (if 0 ≤ p ∧ p < 96 then 7 else 1)) = some false:=by rw [isNil_errC];split <;> rfl
 have z2:m2[M.length]? = some (.live (pgC (.no 0) none)):=by rw [e4 _ (by omega) (by omega)];exact z1
 have st1:stCells m2 ⟨M.length,0,none⟩ (pgC (.no 0) none) = some (wr m2 M.length (pgC (.no 0) none)):=stCells_wr z2 (Nat.le_refl _)
 have c1:ldCells (wr m2 M.length (pgC (.no 0) none)) ⟨M.length,0,none⟩ 9 = some (pgC (.no 0) none):=by rw [ldCells_of (off:=0) (n:=9) (wr_get z2) (Nat.le_refl _)];rfl
 simp only [e1,Option.bind_some,nn,Bool.not_false,cond_true,st1,c1]
 refine .some ⟨rfl,rfl,⟨by rw [wr_len];omega,fun q hq hn => ?_⟩,?_,?_⟩
 ·rw [wr_ne (by omega),e4 q (by omega) fun he => hn (.inl he)]
  obtain ⟨g,hg⟩:=gM
  rw [hg];exact get_app_lt hq
 ·rw [wr_ne (by omega)];exact e2
 ·rw [wr_ne (by omega),e4 mm (by omega) h.ne]
  exact gM.get h.med
end Go.Proofs.YtchonnaoojpdoaaGreat
set_option linter.unusedVariables false
set_option linter.unusedSectionVars false
set_option linter.unusedSimpArgs false
namespace Go.Proofs.YtchonnaoojpdoaaGreat
open Go.Mx
theorem row_okS {R:RA} {ad:Addr} (h:rowA R = some ad):okS ad:=by
 unfold okS
 cases R with
 | none => cases h
 | some x => obtain ⟨D,a⟩:=x;cases a <;> · cases h;first | exact .inl rfl | exact .inr rfl
theorem mediaRead_ok (k:Nat) (hk:1000 < k) {M:Mem} {mm c f N:Nat} {σ:ChipS} {n:Int} (h:MI M mm c f σ n) (hw:Wf N σ) (hN:N < 400000000000000) (hn:0 ≤ n ∧ n < 4611686018427387904) (p:Int) (hp:0 ≤ p ∧ p < 96) (ho:σ.off = false) :
 Ok (media_Media_Read k (some ⟨mm,0,none⟩) p M) (Rdd M mm c f σ n p):=by
 unfold media_Media_Read
 have hz:([.bool false,.int .i64 0,.int .i64 0,.int .i64 0,.int .i64 0,.bool false,.bool false,.slice none 0 0,.int .i64 0]:List Value) = pgC (.no 0) none:=rfl
 have h1:=h.grow (Gr.app M [.live (pgC (.no 0) none)])
 have z1:(M ++ [MObj.live (pgC (.no 0) none)])[M.length]? = some (.live (pgC (.no 0) none)):=get_last rfl
 have l1:ldPtr (M ++ [.live (pgC (.no 0) none)]) ⟨mm,0,none⟩ = some (some ⟨c,0,none⟩):=ldPtr_of h1.med rfl
 have gM:=Gr.app M [.live (pgC (.no 0) none)]
 have ml:(M ++ [MObj.live (pgC (.no 0) none)]).length = M.length + 1:=by simp
 simp only [hz,Option.bind_some,plus,Nat.zero_add,l1]
 generalize M ++ [.live (pgC (.no 0) none)] = M1 at *
 obtain ⟨R0,n0,w0,e,σ',m2,e1,e2,e3,e4,e5,e6,e7,e8,e9,e10,e11⟩:=chipRead_all k (by omega) h1.chip hw hN p
 have clt:=get_lt h.chip
 have mlt:=get_lt h.med
 have hne:=h.ne
 obtain ⟨W,rfl,hW,R0e⟩:∃ W:Nat → GF,w0 = W ∧ (∀ (q i:Nat),q < 4 → i < 64 → (σ.at_ p q).now i = ((W (q * 64 + i)).v:Int)) ∧ (∃ D,R0 = some (D,false)) ∧ n0 = 256 ∧ e = 0 ∧ σ' = σ.readd p:=by
  rcases e11 with ⟨c1,_⟩ | ⟨c1,c2,_⟩ | ⟨c1,c2,c3,c4,c5,c6,c7⟩
  ·exact absurd hp c1
  ·rw [ho] at c2;cases c2
  ·exact ⟨w0,rfl,c7,c3,c4,c5,c6⟩
 obtain ⟨⟨D,rfl⟩,rfl,rfl,rfl⟩:=R0e
 have nn:isNil (errC 0) = some true:=rfl
 have z2:m2[M.length]? = some (.live (pgC (.no 0) none)):=by rw [e4 _ (by omega) (by omega)];exact z1
 have k2:∀ q,q < M.length → q ≠ c → m2[q]? = M[q]?:=fun q hq hqc => by
  rw [e4 q (by omega) hqc]
  obtain ⟨g,hg⟩:=gM
  rw [hg];exact get_app_lt hq
 have d2:m2[mm]? = some (.live (medC c f n)):=by rw [k2 mm mlt hne];exact h.med
 have f2:Frm m2 f:=h.frm.keep fun q cs hq h3 h4 => k2 q (get_lt hq) fun he => by
  rw [he,h.chip] at hq;cases hq;exact h4 (chipC_len _)
 have a1:sync_atomic_Int64_Add k (some ⟨mm,2,none⟩) 1 m2 = some (n + 1,wr m2 mm (medC c f (n + 1))):=by
  unfold sync_atomic_Int64_Add sync_atomic_AddInt64 atAdd
  have l2:ldInt .i64 m2 ⟨mm,2,none⟩ = some n:=ldInt_of d2 rfl
  have s2:st m2 ⟨mm,2,none⟩ (.int .i64 (n + 1)) = some (wr m2 mm (medC c f (n + 1))):=st_wr d2 (by simp [medC])
  have w1:IntKind.wrap .i64 (n + 1) = n + 1:=wrap_i64 (by omega) (by omega)
  simp only [Option.bind_some,plus,Nat.add_zero,l2,w1,s2]
 simp only [e1,Option.bind_some,nn,Bool.not_true,cond_false,plus,Nat.zero_add,a1]
 have d3:=wr_get (cs:=medC c f (n + 1)) d2
 have c3:(wr m2 mm (medC c f (n + 1)))[c]? = some (.live (chipC (σ.readd p))):=by rw [wr_ne hne];exact e2
 have f3:Frm (wr m2 mm (medC c f (n + 1))) f:=f2.keep fun q cs hq h3 h4 => wr_ne fun he => by
  rw [← he,d2] at hq;cases hq;exact h3 rfl
 have z3:(wr m2 mm (medC c f (n + 1)))[M.length]? = some (.live (pgC (.no 0) none)):=by rw [wr_ne (by omega)];exact z2
 have Dne:D ≠ mm:=fun he => by have:=e6 D rfl;omega
 have r3:Src (wr m2 mm (medC c f (n + 1))) (rowA (some (D,false))) 256 w0:=by
  obtain ⟨u,u1,u2,_⟩:=e5
  rw [bys_congr u2] at u1
  exact Src.of (by rw [wr_ne (Ne.symm Dne)];exact u1)
 have k3:∀ q,q < M.length → q ≠ c → q ≠ mm → (wr m2 mm (medC c f (n + 1)))[q]? = M[q]?:=fun q hq h3 h4 => by rw [wr_ne (Ne.symm h4)];exact k2 q hq h3
 have l3:(wr m2 mm (medC c f (n + 1))).length = m2.length:=wr_len
 generalize wr m2 mm (medC c f (n + 1)) = m3 at *
 have g10:=Gr.app m3 [.live (pgC (.no 0) none)]
 have z10:(m3 ++ [MObj.live (pgC (.no 0) none)])[m3.length]? = some (.live (pgC (.no 0) none)):=get_last rfl
 have ending:∀ (M':Mem) (q:PgT) (R:RA) (L:Nat),Gr m3 M' → M'[m3.length]? = some (.live (pgC q R)) → q = pgS w0 p → RowLive M' R q.n L (fun u => ∀ i,i < q.n → u i = q.w i) → (∀ D,rowD R = some D → M.length + 1 ≤ D) →
  ∃ M'',stCells M' ⟨M.length,0,none⟩ (pgC q R) = some M'' ∧ ldCells M'' ⟨M.length,0,none⟩ 9 = some (pgC q R) ∧ Rdd M mm c f σ n p (pgC q R,.nilIface,M''):=by
  intro M' q R L hg hq he hr hD
  have z4:=hg.get z3
  have ll:=hg.len
  refine ⟨_,stCells_wr z4 (Nat.le_refl _),by rw [ldCells_of (off:=0) (n:=9) (wr_get z4) (Nat.le_refl _)];rfl,w0,R,L,hW,by rw [he],rfl,?_,fun D hD' => by have:=hD D hD';omega,⟨by rw [wr_len];omega,fun x hx hn' => ?_⟩,?_,?_⟩
  ·rw [← he]
   exact hr.keep fun D hD' => wr_ne (by have:=hD D hD';omega)
  ·rw [wr_ne (by omega)]
   obtain ⟨g,hg⟩:=hg
   rw [hg,get_app_lt (by omega)]
   exact k3 x hx (fun h => hn' (.inl h)) (fun h => hn' (.inr h))
  ·rw [wr_ne (by omega)];exact hg.get c3
  ·rw [wr_ne (by omega)];exact hg.get d3
 have hs256:(256:Nat) = 256 → ∃ ad,rowA (some (D,false)) = some ad ∧ okS ad:=fun _ => ⟨_,rfl,.inl rfl⟩
 refine media_Media_Read_l0_rule k _ (fun d x0 x1 x4 x6a x6n x6c x8 x36 M' => (some ⟨mm,0,none⟩:Option Addr) = x0 ∧ p = x1 ∧ (⟨M.length,0,none⟩:Addr) = x4 ∧ rowA (some (D,false)) = x6a ∧ 256 = x6n ∧ 256 = x6c ∧ (⟨m3.length,0,none⟩:Addr) = x8 ∧ ∃ j:Nat,x36 = j ∧ j + d = 4 ∧ Gr m3 M' ∧ M'[m3.length]? = some (.live (pgC (.no (mxm w0 j)) none))) ?_ k 4 _ _ _ _ _ _ _ _ _ (by omega)
  ⟨rfl,rfl,rfl,rfl,rfl,rfl,rfl,0,rfl,rfl,g10,z10⟩
 rintro d nx _ _ _ _ _ _ _ _ M' ⟨rfl,rfl,rfl,rfl,rfl,rfl,rfl,j,rfl,hd,hg,hq⟩ hnx
 unfold media_Media_Read_l0_b
 have l2:ldPtr M' ⟨mm,1,none⟩ = some (some ⟨f,0,none⟩):=ldPtr_of (hg.get d3) rfl
 have rS:=r3.grow hg
 have rF:=f3.grow hg
 by_cases hj:(j:Int) < 4
 ·simp only [decide_eq_true hj,cond_true,Option.bind_some,plus,Nat.zero_add,l2]
  refine .bind (msgF k hk rS hs256 (Nat.le_refl _) rF (j:Int)) ?_
  rintro ⟨s,a,ev,M2⟩ ⟨R,L,rfl,q1,q2,rfl,rfl,q3⟩
  simp only at q1 q3 ⊢
  have hq2:=q3.get hq
  have nx1:∀ M3,Gr m3 M3 → M3[m3.length]? = some (.live (pgC (.no (mxm w0 (j + 1))) none)) → Ok (media_Media_Read_j1 k (some ⟨mm,0,none⟩) p ⟨M.length,0,none⟩ (rowA (some (D,false))) 256 256 ⟨m3.length,0,none⟩ (j:Int) nx M3) (Rdd M mm c f σ n p):=fun M3 h1 h2 => by
   unfold media_Media_Read_j1
   exact hnx (d - 1) _ _ _ _ _ _ _ _ _ (by omega) ⟨rfl,rfl,rfl,rfl,rfl,rfl,rfl,j + 1,by rw [wrap_i64 (by omega) (by omega)];push_cast;rfl,by omega,h1,h2⟩
  rw [isNil_errC,Option.bind_some]
  by_cases he:(msgS 256 w0 (j:Int)).e = 0
  ·have l8:ldInt .i64 M2 ⟨m3.length,8,none⟩ = some ((mxm w0 j:Nat):Int):=ldInt_of hq2 rfl
   have s8:st M2 ⟨m3.length,8,none⟩ (.int .i64 ((max (mxm w0 j) (msgS 256 w0 (j:Int)).a:Nat):Int)) = some (wr M2 m3.length (pgC (.no (mxm w0 (j + 1))) none)):=by
    rw [st_wr hq2 (by simp [pgC])]
    have:mxm w0 (j + 1) = max (mxm w0 j) (msgS 256 w0 (j:Int)).a:=by show (if _ then _ else _) = _;rw [if_pos he]
    rw [this];rfl
   rw [decide_eq_true he,cond_true,l8,Option.bind_some,maxI_nat,s8,Option.bind_some]
   exact nx1 _ ((hg.trans q3).wr (Nat.le_refl _) _) (wr_get hq2)
  ·have e9':mxm w0 (j + 1) = mxm w0 j:=by show (if _ then _ else _) = _;rw [if_neg he]
   rw [decide_eq_false he,cond_false]
   exact nx1 _ (hg.trans q3) (by rw [e9'];exact hq2)
 ·clear hnx
  obtain rfl:j = 4:=by omega
  simp only [decide_eq_false hj,cond_false,Option.bind_some,plus,Nat.zero_add,l2]
  refine .bind (bodyF k hk rS hs256 (Nat.le_refl _) rF) ?_
  rintro ⟨s,a,ev,M2⟩ ⟨R,L,rfl,q1,q2,rfl,rfl,q3⟩
  simp only at q1 q3 ⊢
  have gg:=hg.trans q3
  have hq2:=q3.get hq
  have noE:∀ (M3:Mem),Gr m3 M3 → M3[m3.length]? = some (.live (pgC (.no (mxm w0 4)) none)) → pgS w0 p = .no (mxm w0 4) → Ok ((ldCells M3 ⟨m3.length,0,none⟩ 9).bind fun t22 => bif Nat.beq (List.length t22) 9 then ((stCells M3 ⟨M.length,0,none⟩ t22).bind fun m23 => (ldCells m23 ⟨M.length,0,none⟩ 9).bind fun t24 => some (t24,Value.nilIface,m23)) else none) (Rdd M mm c f σ n p):=fun M3 h1 h2 h3 => by
   have c9:ldCells M3 ⟨m3.length,0,none⟩ 9 = some (pgC (.no (mxm w0 4)) none):=by rw [ldCells_of (off:=0) (n:=9) h2 (Nat.le_refl _)];rfl
   have L9:Nat.beq (pgC (.no (mxm w0 4)) none).length 9 = true:=rfl
   obtain ⟨M4,b1,b2,b3⟩:=ending M3 _ none 0 h1 h2 h3.symm rfl (fun D h => nomatch h)
   simp only [c9,Option.bind_some,L9,cond_true,b1,b2]
   exact .some b3
  rw [isNil_errC,Option.bind_some]
  by_cases he:(bodyS 256 w0).e = 0
  ·rw [decide_eq_true he,Bool.not_true,cond_false]
   have n50:=bodyS_n he
   rw [n50] at q1 ⊢
   obtain ⟨ad,had⟩:∃ ad,rowA R = some ad:=by
    cases R with
    | none => have h0:(50:Nat) = 0:=q1;omega
    | some x => obtain ⟨D',b⟩:=x;cases b <;> exact ⟨_,rfl⟩
   have q1s:=q1.src
   rw [had] at q1s ⊢
   refine .bind (tagDec_ok k (by omega) q1s (row_okS had) (Nat.le_refl _)) ?_
   rintro ⟨tc,te,M3⟩ ⟨g3,dec⟩
   simp only at g3 dec ⊢
   have hzt:([.int .i64 0,.int .i64 0,.int .i64 0,.int .i64 0,.bool false]:List Value) = tagC ztag:=rfl
   have gg3:=gg.trans g3
   have hq3:=g3.get hq2
   have tagst:∀ t,stCells (M3 ++ [.live (tagC ztag)]) ⟨M3.length,0,none⟩ (tagC t) = some (M3 ++ [.live (tagC t)]):=fun t => by rw [stCells_wr (get_last rfl) (Nat.le_refl _),wr_last rfl];rfl
   have L5:∀ t,Nat.beq (tagC t).length 5 = true:=fun _ => rfl
   rcases dec with ⟨t,ht,rfl,rfl⟩ | ⟨ht,rfl,rfl⟩
   ·have n1:isNil .nilIface = some true:=rfl
    have gt:=Gr.app M3 [.live (tagC t)]
    have lt':(M3 ++ [MObj.live (tagC t)]).length = M3.length + 1:=by simp
    have xt:(M3 ++ [MObj.live (tagC t)])[M3.length]? = some (.live (tagC t)):=get_last rfl
    have hq4:=gt.get hq3
    have lp:ldInt .i64 (M3 ++ [.live (tagC t)]) ⟨M3.length,0,none⟩ = some t.place:=ldInt_of xt rfl
    have gg4:=gg3.trans gt
    simp only [hzt,L5,cond_true,tagst,Option.bind_some,n1,Bool.not_true,cond_false,lp]
    generalize M3 ++ [.live (tagC t)] = M4 at *
    by_cases hpl:t.place = p
    ·have b1:(t.place != p) = false:=by rw [hpl];simp
     have ct:ldCells M4 ⟨M3.length,0,none⟩ 5 = some (tagC t):=by rw [ldCells_of (off:=0) (n:=5) xt (Nat.le_refl _)];rfl
     have m3lt:m3.length ≠ M3.length:=fun he' => by rw [← he',hq4] at xt;simp only [Option.some.injEq,MObj.live.injEq] at xt;have:=congrArg List.length xt;simp [pgC,tagC] at this
     have s0:st M4 ⟨m3.length,0,none⟩ (.bool true) = some (wr M4 m3.length (pgC ⟨true,ztag,false,0,fun _ => 0,mxm w0 4⟩ none)):=by rw [st_wr hq4 (by simp [pgC])];rfl
     have hq5:=wr_get (cs:=pgC ⟨true,ztag,false,0,fun _ => 0,mxm w0 4⟩ none) hq4
     have ct2:ldCells (wr M4 m3.length (pgC ⟨true,ztag,false,0,fun _ => 0,mxm w0 4⟩ none)) ⟨M3.length,0,none⟩ 5 = some (tagC t):=by rw [ldCells_of (off:=0) (n:=5) (by rw [wr_ne m3lt];exact xt) (Nat.le_refl _)];rfl
     have s1:stCells (wr M4 m3.length (pgC ⟨true,ztag,false,0,fun _ => 0,mxm w0 4⟩ none)) ⟨m3.length,1,none⟩ (tagC t) = some (wr M4 m3.length (pgC ⟨true,t,false,0,fun _ => 0,mxm w0 4⟩ none)):=by rw [stCells_wr hq5 (by simp [pgC,tagC]),wr_wr];rfl
     simp only [b1,cond_false,ct,Option.bind_some,s0,L5,cond_true,s1,ct2,veqs_tag]
     have gg5:=gg4.wr (Nat.le_refl _) (pgC ⟨true,t,false,0,fun _ => 0,mxm w0 4⟩ none)
     have hq6:=wr_get (cs:=pgC ⟨true,t,false,0,fun _ => 0,mxm w0 4⟩ none) hq4
     generalize wr M4 m3.length (pgC ⟨true,t,false,0,fun _ => 0,mxm w0 4⟩ none) = M5 at *
     have l5:ldPtr M5 ⟨mm,1,none⟩ = some (some ⟨f,0,none⟩):=ldPtr_of (gg5.get d3) rfl
     simp only [l5,Option.bind_some]
     refine .bind (dataF k hk (r3.grow gg5) hs256 (Nat.le_refl _) (f3.grow gg5)) ?_
     rintro ⟨s,a,ev,M6⟩ ⟨R',L',rfl,v1,v2,rfl,rfl,v3⟩
     simp only at v1 v3 ⊢
     have hq7:=v3.get hq6
     have gg6:=gg5.trans v3
     have j2:∀ (M7:Mem) (q:PgT) (R:RA) (L:Nat),Gr m3 M7 → M7[m3.length]? = some (.live (pgC q R)) → q = pgS w0 p → RowLive M7 R q.n L (fun u => ∀ i,i < q.n → u i = q.w i) → (∀ D,rowD R = some D → M.length + 1 ≤ D) → Ok (media_Media_Read_j2 k ⟨M.length,0,none⟩ ⟨m3.length,0,none⟩ M7) (Rdd M mm c f σ n p):=fun M7 q R L h1 h2 h3 h4 h5 => by
      unfold media_Media_Read_j2
      have c9:ldCells M7 ⟨m3.length,0,none⟩ 9 = some (pgC q R):=by rw [ldCells_of (off:=0) (n:=9) h2 (Nat.le_refl _)];rfl
      have L9:Nat.beq (pgC q R).length 9 = true:=rfl
      obtain ⟨M8,b1,b2,b3⟩:=ending M7 q R L h1 h2 h3 h4 h5
      simp only [c9,Option.bind_some,L9,cond_true,b1,b2]
      exact .some b3
     rw [isNil_errC,Option.bind_some]
     have lm3:M.length + 1 ≤ m3.length:=by omega
     have l5':=gg5.len
     have l6':=get_lt hq6
     by_cases hde:(dataS 256 w0).e = 0
     ·have s6:st M6 ⟨m3.length,6,none⟩ (.bool true) = some (wr M6 m3.length (pgC ⟨true,t,true,0,fun _ => 0,mxm w0 4⟩ none)):=by rw [st_wr hq7 (by simp [pgC])];rfl
      have s7:st (wr M6 m3.length (pgC ⟨true,t,true,0,fun _ => 0,mxm w0 4⟩ none)) ⟨m3.length,7,none⟩ (.slice (rowA R') (dataS 256 w0).n (dataS 256 w0).n) = some (wr M6 m3.length (pgC ⟨true,t,true,(dataS 256 w0).n,(dataS 256 w0).w,mxm w0 4⟩ R')):=by rw [st_wr (wr_get hq7) (by simp [pgC]),wr_wr];rfl
      rw [decide_eq_true hde,cond_true]
      simp only [s6,Option.bind_some,s7]
      refine j2 _ ⟨true,t,true,(dataS 256 w0).n,(dataS 256 w0).w,mxm w0 4⟩ R' L' (gg6.wr (Nat.le_refl _) _) (wr_get hq7) ?_ (v1.keep fun D' hD' => wr_ne (by have:=v2 D' hD';omega)) (fun D' hD' => by have:=v2 D' hD';omega)
      unfold pgS
      rw [if_pos he,ht]
      simp only [if_pos hpl,if_pos hde]
     ·rw [decide_eq_false hde,cond_false]
      refine j2 M6 ⟨true,t,false,0,fun _ => 0,mxm w0 4⟩ none 0 gg6 hq7 ?_ rfl (fun D h => nomatch h)
      unfold pgS
      rw [if_pos he,ht]
      simp only [if_pos hpl,if_neg hde]
    ·have b1:(t.place != p) = true:=by simpa using hpl
     rw [b1,cond_true]
     refine noE M4 gg4 hq4 ?_
     unfold pgS
     rw [if_pos he,ht]
     simp only [if_neg hpl]
   ·have n1:isNil (errC 3) = some false:=rfl
    have gt:=Gr.app M3 [.live (tagC ztag)]
    simp only [hzt,L5,cond_true,tagst,Option.bind_some,n1,Bool.not_false]
    refine noE _ (gg3.trans gt) (gt.get hq3) ?_
    unfold pgS
    rw [if_pos he,ht]
  ·rw [decide_eq_false he,Bool.not_false,cond_true]
   refine noE M2 gg hq2 ?_
   unfold pgS
   rw [if_neg he]
end Go.Proofs.YtchonnaoojpdoaaGreat
set_option linter.unusedVariables false
set_option linter.unusedSectionVars false
set_option linter.unusedSimpArgs false
namespace Go.Proofs.YtchonnaoojpdoaaGreat
open Go.Mx
theorem tag_eq (t u:TagT):∃ b,cellsEq (eqK tt 28) (tagC t) (tagC u) = some b ∧ (b = true ↔ t = u):=by
 have h:eqK tt 28 = [.int .i64,.int .i64,.int .i64,.int .i64,.bool]:=rfl
 rw [h]
 obtain ⟨p,o,s,c,l⟩:=t
 obtain ⟨p',o',s',c',l'⟩:=u
 by_cases h1:p = p'
 ·subst h1
  by_cases h2:o = o'
  ·subst h2
   by_cases h3:s = s'
   ·subst h3
    by_cases h4:c = c'
    ·subst h4
     cases l <;> cases l' <;> simp [cellsEq,cellEq,tagC]
    ·simp [cellsEq,cellEq,tagC,h4,beq_eq_false_iff_ne.2 h4]
   ·simp [cellsEq,cellEq,tagC,h3,beq_eq_false_iff_ne.2 h3]
  ·simp [cellsEq,cellEq,tagC,h2,beq_eq_false_iff_ne.2 h2]
 ·simp [cellsEq,cellEq,tagC,h1,beq_eq_false_iff_ne.2 h1]
def wrN (p:Int) (cw:Nat → Nat → GF):Nat → Nat → ChipS → Int × ChipS
 | 0,_,σ => (0,σ)
 | d + 1,j,σ => if (σ.write p j 64 (byI (cw j))).1 = 0 then wrN p cw d (j + 1) (σ.write p j 64 (byI (cw j))).2 else σ.write p j 64 (byI (cw j))
noncomputable def cws (t:TagT) (w:Nat → GF) (j:Nat):Nat → GF:=GF.cw gC (msgs w (tagW t) j)
open Classical in
noncomputable def good (W:Nat → GF) (p:Int) (t:TagT) (w:Nat → GF):Prop:=(pgS W p).sound = true ∧ (pgS W p).tag = t ∧ (pgS W p).n = 174 ∧ ∀ i,i < 174 → (pgS W p).w i = w i
theorem dataS_n {w:Nat → GF} (h:(dataS 256 w).e = 0):(dataS 256 w).n = 174:=by
 unfold dataS at *
 rw [if_pos rfl] at *
 split
 ·rfl
 ·rename_i hn;rw [if_neg hn] at h;cases h
theorem pgS_n {W:Nat → GF} {p:Int} (h:(pgS W p).sound = true):(pgS W p).n = 174:=by
 unfold pgS at *
 split
 ·rename_i he
  rw [if_pos he] at h
  split
  ·rename_i ht;rw [ht] at h;cases h
  ·rename_i t ht
   rw [ht] at h
   simp only at h
   split
   ·rename_i hp
    rw [if_pos hp] at h
    split
    ·rename_i hd;exact dataS_n hd
    ·rename_i hd;rw [if_neg hd] at h;cases h
   ·rename_i hp;rw [if_neg hp] at h;cases h
 ·rename_i he;rw [if_neg he] at h;cases h
theorem Gr.cm {c mm:Nat} {m m':Mem} (h:Gr m m'):Cm c mm m m':=h.ch
theorem Cm.trans {c mm:Nat} {m m' m'':Mem} (h:Cm c mm m m') (h':Cm c mm m' m''):Cm c mm m m'':=Ch.trans h h'
theorem Cm.wrC {c mm:Nat} {m m':Mem} (h:Cm c mm m m') (cs:List Value):Cm c mm m (wr m' c cs):=Ch.wr h (.inl (.inl rfl)) cs
def Prd (M:Mem) (mm c f:Nat) (σ:ChipS) (n:Int) (t:TagT) (p:Int) (nn:Nat) (w:Nat → GF) (r:Value × Mem):Prop :=
 Cm c mm M r.2 ∧ ((¬ (t.ok ∧ t.place = p ∧ nn = 174) ∧ r.1 = errC 1 ∧ r.2[c]? = some (.live (chipC σ)) ∧ r.2[mm]? = some (.live (medC c f n))) ∨
  (t.ok ∧ t.place = p ∧ nn = 174 ∧ ((wrN p (cws t w) 4 0 σ).1 ≠ 0 ∧ r.1 = errC (wrN p (cws t w) 4 0 σ).1 ∧ r.2[c]? = some (.live (chipC (wrN p (cws t w) 4 0 σ).2)) ∧ r.2[mm]? = some (.live (medC c f n)) ∨
    (wrN p (cws t w) 4 0 σ).1 = 0 ∧ ∃ W:Nat → GF,(∀ (q i:Nat),q < 4 → i < 64 → ((wrN p (cws t w) 4 0 σ).2.at_ p q).now i = ((W (q * 64 + i)).v:Int)) ∧ (good W p t w → r.1 = errC 0) ∧ (¬ good W p t w → r.1 = errC 8) ∧ r.2[c]? = some (.live (chipC ((wrN p (cws t w) 4 0 σ).2.readd p))) ∧ r.2[mm]? = some (.live (medC c f (n + 1))))))
theorem write_on {σ:ChipS} {p q:Int} {n:Nat} {f:Int → Int} (h:(σ.write p q n f).1 = 0):(σ.write p q n f).2.off = false:=by
 unfold ChipS.write at *
 by_cases a1:¬ isAt p q
 ·rw [if_pos a1] at h;cases h
 by_cases a2:n ≠ 64
 ·rw [if_neg a1,if_pos a2] at h;cases h
 by_cases a3:σ.off = true
 ·rw [if_neg a1,if_neg a2,if_pos a3] at h;cases h
 by_cases a4:(σ.at_ p q).is = true
 ·rw [if_neg a1,if_neg a2,if_neg a3,if_pos a4] at h;cases h
 by_cases a5:σ.step.1 ≠ 0
 ·rw [if_neg a1,if_neg a2,if_neg a3,if_neg a4,if_pos a5] at h;exact absurd h a5
 by_cases a6:(σ.step.2.b (p / 8)).worn.failed = true
 ·rw [if_neg a1,if_neg a2,if_neg a3,if_neg a4,if_neg a5,if_pos a6] at h;cases h
 rw [if_neg a1,if_neg a2,if_neg a3,if_neg a4,if_neg a5,if_neg a6]
 show σ.step.2.off = false
 have a3:σ.off = false:=by simpa using a3
 unfold ChipS.step at *
 split
 ·rename_i hc
  rw [if_pos hc] at a5
  split
  ·rename_i hb;rw [if_pos hb] at a5;exact absurd (by simp) a5
  ·exact a3
 ·exact a3
theorem mediaProgram_ok (k:Nat) (hk:1000 < k) {M:Mem} {mm c f N:Nat} {σ:ChipS} {n:Int} (h:MI M mm c f σ n) (hw:Wf N σ) (hN:N < 300000000000000) (hn:0 ≤ n ∧ n < 4611686018427387904) {t:TagT} {a:Option Addr} {nn ca:Nat} {w:Nat → GF} (ha:∀ M',Cm c mm M M' → Src M' a nn w) (p:Int) :
 Ok (media_Media_Program k (some ⟨mm,0,none⟩) p (tagC t) a nn ca M) (Prd M mm c f σ n t p nn w):=by
 unfold media_Media_Program
 have L5:Nat.beq (tagC t).length 5 = true:=rfl
 have g1:=Gr.app M [.live (tagC t)]
 have x1:(M ++ [MObj.live (tagC t)])[M.length]? = some (.live (tagC t)):=get_last rfl
 have c1:ldCells (M ++ [.live (tagC t)]) ⟨M.length,0,none⟩ 5 = some (tagC t):=by rw [ldCells_of (off:=0) (n:=5) x1 (Nat.le_refl _)];rfl
 have clt:=get_lt h.chip
 have mlt:=get_lt h.med
 have ml1:(M ++ [MObj.live (tagC t)]).length = M.length + 1:=by simp
 simp only [L5,cond_true,c1,Option.bind_some]
 generalize M ++ [.live (tagC t)] = M1 at *
 have n0:isNil .nilIface = some true:=rfl
 have n1:isNil (errC 1) = some false:=rfl
 by_cases hok:t.ok
 ·refine .bind (tagEnc_ok k (by omega) hok _) ?_
  rintro ⟨_,_,M2⟩ ⟨q,rfl,rfl,g2,hq1,hq2⟩
  simp only at g2 hq2 ⊢
  have x2:=g2.get x1
  have gg2:=g1.trans g2
  have lp:ldInt .i64 M2 ⟨M.length,0,none⟩ = some t.place:=ldInt_of x2 rfl
  simp only [n0,Option.bind_some,Bool.not_true,cond_false,plus,Nat.zero_add,lp]
  by_cases hpl:t.place = p
  ·have b1:(t.place != p) = false:=by rw [hpl];simp
   have lm:ldPtr M2 ⟨mm,1,none⟩ = some (some ⟨f,0,none⟩):=ldPtr_of (gg2.get h.med) rfl
   simp only [b1,cond_false,lm,Option.bind_some]
   by_cases h174:nn = 174
   ·subst h174
    refine .bind (lay_ok k hk (ca:=ca) (cb:=50) (h.frm.grow gg2) (ha M2 gg2.cm) (Src.of (sp:=some 1) hq2)) ?_
    rintro ⟨_,_,M3⟩ ⟨qq,D,rfl,rfl,g3,hqq,hrow,hD⟩
    simp only at g3 hrow hD ⊢
    have gg3:=gg2.trans g3
    have x3:=g3.get x2
    have h3:=h.grow gg3
    have ml2:=g2.len
    have ml3:=gg2.len
    have ml4:=g3.len
    simp only [n0,Option.bind_some,Bool.not_true,cond_false]
    have cwe:∀ j,GF.cw gC (msgs w (tagW t) j) = cws t w j:=fun j => rfl
    refine media_Media_Program_l0_rule k _ _ (fun d x0 x1 x3a x3n x3c x6 x42a x42n x42c x43 x44 M' => (some ⟨mm,0,none⟩:Option Addr) = x0 ∧ p = x1 ∧ a = x3a ∧ 174 = x3n ∧ ca = x3c ∧ (⟨M.length,0,none⟩:Addr) = x6 ∧ (some ⟨qq,0,some 1⟩:Option Addr) = x42a ∧ 4 = x42n ∧ 4 = x42c ∧ (4:Int) = x43 ∧ ∃ (j:Nat) (σ':ChipS),x44 = j ∧ j + d = 4 ∧ Wf (N + j) σ' ∧ wrN p (cws t w) 4 0 σ = wrN p (cws t w) d j σ' ∧ M'.length = M3.length ∧ (∀ x,x < M3.length → x ≠ c → M'[x]? = M3[x]?) ∧ M'[c]? = some (.live (chipC σ')) ∧ (0 < j → σ'.off = false)) ?_ k 4 _ _ _ _ _ _ _ _ _ _ _ _ (by omega)
     ⟨rfl,rfl,rfl,rfl,rfl,rfl,rfl,rfl,rfl,rfl,0,σ,rfl,rfl,hw,rfl,rfl,fun _ _ _ => rfl,h3.chip,fun h => by omega⟩
    rintro d nx _ _ _ _ _ _ _ _ _ _ _ M' ⟨rfl,rfl,rfl,rfl,rfl,rfl,rfl,rfl,rfl,rfl,j,σ',rfl,hd,hw',hwr,hlen,hk',hc',hon⟩ hnx
    unfold media_Media_Program_l0_b
    have med':M'[mm]? = some (.live (medC c f n)):=by rw [hk' mm (get_lt h3.med) h3.ne];exact h3.med
    have cm':Cm c mm M M':=by
     refine ⟨by have:=gg3.len;omega,fun x hx hn' => ?_⟩
     rw [hk' x (by have:=gg3.len;omega) fun he => hn' (.inl he)]
     obtain ⟨g,hg⟩:=gg3
     rw [hg];exact get_app_lt hx
    by_cases hj:(j:Int) < 4
    ·have tj:Int.toNat (j:Int) = j:=Int.toNat_natCast j
     have i1:inRange (j:Int) 4 = true:=inRange_yes (by omega) hj
     obtain ⟨hD1,hD2,hD3,_⟩:=hD j (by omega)
     have qlt:=get_lt hrow
     have Dlt:=get_lt hD3
     have row':M'[qq]? = some (.live (sls 4 D (fun _ => 64) none)):=by rw [hk' qq qlt (by omega)];exact hrow
     have dj:M'[D j]? = some (.live (bys 64 (cws t w j))):=by rw [hk' (D j) Dlt (by omega)];exact hD3
     have lr:ldSl M' ⟨qq,j,some 1⟩ = some ⟨some ⟨D j,0,none⟩,64,64⟩:=ldSl_of row' (sls_get (by omega))
     have lc:ldPtr M' ⟨mm,0,none⟩ = some (some ⟨c,0,none⟩):=ldPtr_of med' rfl
     have hst:=hw'.steps
     have e2:=nand_Write_is k hc' ⟨hst.1,by omega⟩ hw'.bud hw'.bf p (j:Int) (a:=some ⟨D j,0,none⟩) (n:=64) (cc:=64) (f:=byI (cws t w j)) (by
      intro _ τ'
      exact Src.of (sp:=none) (by rw [wr_ne (by omega)];exact dj))
     simp only [decide_eq_true hj,cond_true,i1,Option.bind_some,tj,Nat.mul_one,plus,Nat.zero_add,lr,lc,e2,isNil_errC]
     have hc2:=wr_get (cs:=chipC (σ'.write p j 64 (byI (cws t w j))).2) hc'
     obtain ⟨d',rfl⟩:∃ d',d = d' + 1:=⟨d - 1,by omega⟩
     have hwr2:wrN p (cws t w) (d' + 1) j σ' = if (σ'.write p j 64 (byI (cws t w j))).1 = 0 then wrN p (cws t w) d' (j + 1) (σ'.write p j 64 (byI (cws t w j))).2 else σ'.write p j 64 (byI (cws t w j)):=rfl
     by_cases he:(σ'.write p j 64 (byI (cws t w j))).1 = 0
     ·rw [if_pos he] at hwr2
      simp only [decide_eq_true he,Bool.not_true,cond_false]
      exact hnx d' _ _ _ _ _ _ _ _ _ _ _ _ (by omega) ⟨rfl,rfl,rfl,rfl,rfl,rfl,rfl,rfl,rfl,rfl,j + 1,_,by rw [wrap_i64 (by omega) (by omega)];push_cast;rfl,by omega,hw'.write p j 64 _,by rw [hwr,hwr2],by rw [wr_len];exact hlen,fun x hx hxc => by rw [wr_ne (Ne.symm hxc)];exact hk' x hx hxc,hc2,fun _ => write_on he⟩
     ·rw [if_neg he] at hwr2
      rw [decide_eq_false he,Bool.not_false,cond_true]
      refine .some ⟨cm'.wrC _,.inr ⟨hok,hpl,rfl,.inl ⟨by rw [hwr,hwr2];exact he,by rw [hwr,hwr2],by rw [hwr,hwr2];exact hc2,?_⟩⟩⟩
      rw [wr_ne (Ne.symm h3.ne)];exact med'
    ·clear hnx
     obtain rfl:j = 4:=by omega
     obtain rfl:d = 0:=by omega
     have hwr:wrN p (cws t w) 4 0 σ = (0,σ'):=hwr
     have hp:0 ≤ p ∧ p < 96:=by rw [← hpl];exact ⟨hok.1,hok.2.1⟩
     have h4:MI M' mm c f σ' n:=h.step cm' hc' med'
     rw [decide_eq_false hj,cond_false]
     refine .bind (mediaRead_ok k hk h4 hw' (by omega) hn p hp (hon (by omega))) ?_
     rintro ⟨pc,ev,M5⟩ ⟨W,R,L,hW,rfl,rfl,hR,hR2,cm5,hc5,hm5⟩
     simp only at hR cm5 hc5 hm5 ⊢
     have hz:([.bool false,.int .i64 0,.int .i64 0,.int .i64 0,.int .i64 0,.bool false,.bool false,.slice none 0 0,.int .i64 0]:List Value) = pgC (.no 0) none:=rfl
     have L9:Nat.beq (pgC (pgS W p) R).length 9 = true:=rfl
     have st9:stCells (M5 ++ [.live (pgC (.no 0) none)]) ⟨M5.length,0,none⟩ (pgC (pgS W p) R) = some (M5 ++ [.live (pgC (pgS W p) R)]):=by rw [stCells_wr (get_last rfl) (Nat.le_refl _),wr_last rfl];rfl
     have g6:=Gr.app M5 [.live (pgC (pgS W p) R)]
     have x6:(M5 ++ [MObj.live (pgC (pgS W p) R)])[M5.length]? = some (.live (pgC (pgS W p) R)):=get_last rfl
     simp only [hz,L9,cond_true,st9,Option.bind_some,n0,Bool.not_true,cond_false]
     have xt5:M5[M.length]? = some (.live (tagC t)):=by
      have y1:M'[M.length]? = some (.live (tagC t)):=by rw [hk' M.length (by omega) (by omega)];exact x3
      exact cm5.old y1 (by rintro (he | he) <;> omega)
     have xt6:=g6.get xt5
     have cm6:Cm c mm M (M5 ++ [.live (pgC (pgS W p) R)]):=(cm'.trans cm5).trans g6.cm
     have hc6:=g6.get hc5
     have hm6:=g6.get hm5
     have hR6:=hR.grow g6
     generalize M5 ++ [.live (pgC (pgS W p) R)] = M6 at *
     have l6:ldBool M6 ⟨M5.length,6,none⟩ = some (pgS W p).sound:=ldBool_of x6 rfl
     have fin:∀ e:Int,(good W p t w → e = 0) → (¬ good W p t w → e = 8) → Prd M mm c f σ n t p 174 w (errC e,M6):=fun e h1 h2 =>
      ⟨cm6,.inr ⟨hok,hpl,rfl,.inr ⟨by rw [hwr],W,by rw [hwr];exact hW,fun hg => by rw [h1 hg],fun hg => by rw [h2 hg],by rw [hwr];exact hc6,hm6⟩⟩⟩
     have h8:(Value.iface ty_api_Code (.int .i64 8)) = errC 8:=rfl
     simp only [plus,Nat.zero_add,l6,Option.bind_some,h8]
     cases hs:(pgS W p).sound with
     | false =>
      simp only [Bool.not_false,cond_true]
      exact .some (fin 8 (fun hg => by rw [hg.1] at hs;cases hs) fun _ => rfl)
     | true =>
      have ct1:ldCells M6 ⟨M5.length,1,none⟩ 5 = some (tagC (pgS W p).tag):=by rw [ldCells_of (off:=1) (n:=5) x6 (by simp [pgC])];rfl
      have ct2:ldCells M6 ⟨M.length,0,none⟩ 5 = some (tagC t):=by rw [ldCells_of (off:=0) (n:=5) xt6 (Nat.le_refl _)];rfl
      obtain ⟨b,bq1,bq2⟩:=tag_eq (pgS W p).tag t
      simp only [Bool.not_true,cond_false,ct1,Option.bind_some,ct2,bq1]
      cases b with
      | false =>
       simp only [Bool.not_false,cond_true]
       exact .some (fin 8 (fun hg => by have:=bq2.2 hg.2.1;cases this) fun _ => rfl)
      | true =>
       have n174:=pgS_n hs
       have l7:ldSl M6 ⟨M5.length,7,none⟩ = some ⟨rowA R,(pgS W p).n,(pgS W p).n⟩:=ldSl_of x6 rfl
       have sr:=hR6.src
       obtain ⟨z,z1,z2⟩:=bytesEq_is k (m:=M6) (c:=(pgS W p).n) (c':=ca) sr (ha M6 cm6) (by omega) (by omega)
       simp only [Bool.not_true,cond_false,l7,Option.bind_some,z1]
       cases z with
       | false =>
        simp only [Bool.not_false,cond_true]
        exact .some (fin 8 (fun hg => by have:=z2.2 ⟨hg.2.2.1,fun i hi => hg.2.2.2 i (by omega)⟩;cases this) fun _ => rfl)
       | true =>
        simp only [Bool.not_true,cond_false]
        exact .some (fin 0 (fun _ => rfl) fun hng => absurd ⟨hs,bq2.1 rfl,n174,fun i hi => (z2.1 rfl).2 i (by omega)⟩ hng)
   ·refine .bind (lay_no k (fun h => h174 h.1)) ?_
    rintro ⟨_,_,M3⟩ ⟨rfl,rfl,g3⟩
    simp only [Option.bind_some,n1,Bool.not_false,cond_true] at g3 ⊢
    have gg3:=gg2.trans g3
    exact .some ⟨gg3.cm,.inl ⟨fun h => h174 h.2.2,rfl,gg3.get h.chip,gg3.get h.med⟩⟩
  ·have b1:(t.place != p) = true:=by simpa using hpl
   rw [b1,cond_true]
   exact .some ⟨gg2.cm,.inl ⟨fun h => hpl h.2.1,rfl,gg2.get h.chip,gg2.get h.med⟩⟩
 ·refine .bind (tagEnc_no k hok _) ?_
  rintro ⟨_,_,M2⟩ ⟨rfl,rfl,g2⟩
  simp only [n1,Option.bind_some,Bool.not_false,cond_true] at g2 ⊢
  have gg2:=g1.trans g2
  exact .some ⟨gg2.cm,.inl ⟨fun h => hok h.1,rfl,gg2.get h.chip,gg2.get h.med⟩⟩
end Go.Proofs.YtchonnaoojpdoaaGreat
set_option linter.unusedVariables false
set_option linter.unusedSectionVars false
set_option linter.unusedSimpArgs false
namespace Go.Proofs.YtchonnaoojpdoaaGreat
open Go.Mx
theorem mark_cells:[Value.int .u8 112,.int .u8 97,.int .u8 116,.int .u8 105,.int .u8 110,.int .u8 97,.int .u8 48,.int .u8 49] = bys 8 mrk:=by kernel_rfl
theorem refSealed_ok (k:Nat) {m:Mem} {a:Option Addr} {c:Nat} {w:Nat → GF} (hw:Src m a 50 w) :
 Ok (patinaref03_Sealed k a 50 c m) fun r => ∃ d,r.1 = ⟨some ⟨d,0,some 1⟩,58,58⟩ ∧ Gr m r.2 ∧ m.length ≤ d ∧ r.2[d]? = some (.live (bys 58 (sealed w))):=by
 unfold patinaref03_Sealed patinaref03_Mark
 have e1:rdSl m a 50 1 = some (bys 50 w):=hw
 have e2:appM 1 1 m none 0 0 50 (bys 50 w) = some (⟨some ⟨m.length,0,some 1⟩,50,50⟩,m ++ [.live (bys 50 w)]):=appM_first (by omega) (by unfold most;omega) (by unfold most;omega)
 have l1:(m ++ [MObj.live (bys 50 w)]).length = m.length + 1:=by simp
 have d1:=get_grow (g:=[.live (bys 8 mrk)]) (get_last (m:=m) (o:=.live (bys 50 w)) rfl)
 have e3:rdSl ((m ++ [MObj.live (bys 50 w)]) ++ [.live (bys 8 mrk)]) (some ⟨m.length + 1,0,none⟩) 8 1 = some (bys 8 mrk):=Src.of (sp:=none) (get_last l1)
 have e4:appM 1 1 ((m ++ [MObj.live (bys 50 w)]) ++ [.live (bys 8 mrk)]) (some ⟨m.length,0,some 1⟩) 50 50 8 (bys 8 mrk) = some (⟨some ⟨((m ++ [MObj.live (bys 50 w)]) ++ [MObj.live (bys 8 mrk)]).length,0,some 1⟩,50 + 8,50 + 8⟩,((m ++ [MObj.live (bys 50 w)]) ++ [MObj.live (bys 8 mrk)]).set m.length (.old (bys 50 w) ((m ++ [MObj.live (bys 50 w)]) ++ [MObj.live (bys 8 mrk)]).length) ++ [.live (bys 50 w ++ bys 8 mrk)]) :=
  appM_grow d1 (by rw [bys_len]) (by omega) (by unfold most;omega) (by unfold most;omega)
 have hs:bys 50 w ++ bys 8 mrk = bys 58 (sealed w):=bys_append
 rw [hs] at e4
 simp (disch:=omega) only [SX,plus,e1,e2,mark_cells,l1,e3,e4]
 have g1:Gr m (((m ++ [MObj.live (bys 50 w)]) ++ [MObj.live (bys 8 mrk)]).set m.length (.old (bys 50 w) ((m ++ [MObj.live (bys 50 w)]) ++ [MObj.live (bys 8 mrk)]).length)):=(((Gr.app m _).trans (Gr.app _ _))).kill (Nat.le_refl _) _
 exact .some ⟨_,rfl,g1.trans (Gr.app _ _),by simp,get_last (by simp)⟩
structure RlI (m:Mem) (w u:Nat → GF) (i:Nat) (M:Mem) (out:Option Addr) (D:Nat → Nat):Prop where
 gr:Gr m M
 row:Rw m.length M out i D 64 (some 1)
 D_:∀ j,j < i → m.length ≤ D j ∧ M[D j]? = some (.live (bys 64 (GF.cw gC (msgs w u j)))) ∧ ∀ q,out = some ⟨q,0,some 1⟩ → D j ≠ q
theorem RlI.next {m M M2 M4:Mem} {w u:Nat → GF} {i d:Nat} {out:Option Addr} {D:Nat → Nat} (hI:RlI m w u i M out D) (hg2:Gr M M2) (hd0:M.length ≤ d) (h2:M2[d]? = some (.live (bys 64 (GF.cw gC (msgs w u i))))) (hi:i < 1000)
 {f:Sl × Mem} (hf:appM 1 24 (M2 ++ [.live [.slice (some ⟨d,0,some 1⟩) 64 64]]) out i i 1 [.slice (some ⟨d,0,some 1⟩) 64 64] = some f) :
 f.1.len = i + 1 ∧ f.1.cap = i + 1 ∧ RlI m w u (i + 1) f.2 f.1.a (fun j => if j = i then d else D j):=by
 have hgl:=hg2.len
 have hml:=hI.gr.len
 have hdl:=get_lt h2
 have row2:=(hI.row.grow hg2).grow (Gr.app M2 [.live [.slice (some ⟨d,0,some 1⟩) 64 64]])
 have hl2':(M2 ++ [MObj.live [.slice (some ⟨d,0,some 1⟩) 64 64]]).length = M2.length + 1:=by simp
 obtain ⟨M5,q1,q2,q3,q4,q5⟩:=row2.app (d:=d) (by omega) hi
 rw [hl2'] at q1 q2 q3 q4
 rw [q1] at hf
 cases hf
 have outne:∀ q,out = some ⟨q,0,some 1⟩ → m.length ≤ q ∧ q < M.length:=by
  rintro q rfl
  rcases hI.row with ⟨h,_⟩ | ⟨q',h,h1,h2⟩
  ·cases h
  ·simp only [Option.some.injEq,Addr.mk.injEq,and_true] at h
   subst h
   exact ⟨h1,get_lt h2⟩
 refine ⟨rfl,rfl,q5 m ((hI.gr.trans hg2).trans (Gr.app _ _)) (Nat.le_refl _),.inr ⟨M2.length + 1,rfl,by omega,q3⟩,fun j hj => ?_⟩
 by_cases h1:j = i
 ·subst h1
  simp only [↓reduceIte]
  refine ⟨by omega,?_,fun q hq => by cases hq;omega⟩
  rw [q4 _ (by omega) fun q hq => by have:=outne q hq;omega,get_app_lt hdl];exact h2
 ·obtain ⟨z1,z2,z3⟩:=hI.D_ j (by omega)
  have z5:=get_lt z2
  simp only [if_neg h1]
  refine ⟨z1,?_,fun q hq => by cases hq;omega⟩
  rw [q4 _ (by omega) z3,get_app_lt (by omega)];exact hg2.get z2
theorem refLay_at (k:Nat) (hk:1000 < k) {m:Mem} {ad:Addr} {b:Option Addr} {ca cb:Nat} {w u:Nat → GF} (ha:Src m (some ad) 174 w) (hs:okS ad) (hca:174 ≤ ca) (hb:Src m b 50 u) :
 Ok (patinaref06_Lay k (some ad) 174 ca b 50 cb m) fun r => ∃ q D,r.1 = ⟨some ⟨q,0,some 1⟩,4,4⟩ ∧ r.2.1 = true ∧ Gr m r.2.2 ∧ m.length ≤ q ∧ r.2.2[q]? = some (.live (sls 4 D (fun _ => 64) (some 1))) ∧
  ∀ i,i < 4 → m.length ≤ D i ∧ r.2.2[D i]? = some (.live (bys 64 (GF.cw gC (msgs w u i)))):=by
 unfold patinaref06_Lay
 have e1:(((174:Nat):Int) != 174) = false:=rfl
 have e2:(((50:Nat):Int) != 50) = false:=rfl
 simp (disch:=omega) only [SX,plus,e1,e2]
 refine patinaref06_Lay_l0_rule k _ (fun r x0a x0n x0c x1a x1n x1c x6a x6n x6c x7 M => some ad = x0a ∧ 174 = x0n ∧ ca = x0c ∧ b = x1a ∧ 50 = x1n ∧ cb = x1c ∧ ∃ (i:Nat) (D:Nat → Nat),i = x6n ∧ i = x6c ∧ x7 = i ∧ i + r = 3 ∧ RlI m w u i M x6a D) ?_ k 3 _ _ _ _ _ _ _ _ _ _ _ (by omega)
  ⟨rfl,rfl,rfl,rfl,rfl,rfl,0,fun _ => 0,rfl,rfl,rfl,rfl,⟨Gr.refl _,.inl ⟨rfl,rfl⟩,fun j hj => by omega⟩⟩
 rintro r nx _ _ _ _ _ _ out _ _ _ M ⟨rfl,rfl,rfl,rfl,rfl,rfl,i,D,rfl,rfl,rfl,hr,hI⟩ hnx
 unfold patinaref06_Lay_l0_b
 by_cases hi:(i:Int) < 3
 ·have w1:IntKind.wrap .i64 (58 * (i:Int)) = ((i * 58:Nat):Int):=by rw [wrap_i64 (by omega) (by omega)];simp;omega
  have w2:IntKind.wrap .i64 (((i * 58:Nat):Int) + 58) = ((i * 58 + 58:Nat):Int):=by rw [wrap_i64 (by omega) (by omega)];simp
  have u1:inUpto ((i * 58 + 58:Nat):Int) ca = true:=inUpto_yes (by omega) (by omega)
  have u2:inUpto ((i * 58:Nat):Int) (i * 58 + 58) = true:=inUpto_yes (by omega) (by omega)
  have s1:i * 58 + 58 - i * 58 = 58:=by omega
  simp only [decide_eq_true hi,cond_true,w1,w2,hs.z,u1,u2,Bool.and_self,Int.toNat_natCast,clear_f,Option.map_some,Nat.mul_one,s1]
  refine .bind (refEncode_ok k hk (c:=ca - i * 58) ((ha.grow hI.gr).part (o:=i * 58) (l:=58) (by omega))) ?_
  rintro ⟨_,M2⟩ ⟨a',rfl,hg2,⟨_,h⟩ | ⟨d,rfl,hd0,hd⟩⟩
  ·omega
  simp only at hg2 hd ⊢
  have hcw:bys 64 (GF.cw gC fun j => w (i * 58 + j)) = bys 64 (GF.cw gC (msgs w u i)):=bys_congr fun j _ => GF.cw_congr (fun t ht => by
   show w (i * 58 + t) = whole w u (i * 58 + t)
   unfold whole;rw [if_pos (by omega)]) j
  rw [hcw] at hd
  have row2:=(hI.row.grow hg2).grow (Gr.app M2 [.live [.slice (some ⟨d,0,some 1⟩) 64 64]])
  obtain ⟨M5,q1,_⟩:=row2.app (d:=d) (by have:=hI.gr.len;have:=hg2.len;simp;omega) (by omega)
  obtain ⟨n1,n2,hI2⟩:=hI.next hg2 hd0 hd (by omega) (M4:=M5) q1
  simp only at hI2
  simp (disch:=omega) only [SX,plus,rdSl_new,q1]
  exact hnx (r - 1) _ _ _ _ _ _ _ _ _ _ _ (by omega) ⟨rfl,rfl,rfl,rfl,rfl,rfl,i + 1,_,rfl,rfl,by omega,by omega,hI2⟩
 ·obtain rfl:i = 3:=by omega
  rw [decide_eq_false hi,cond_false]
  refine .bind (refSealed_ok k (c:=cb) (hb.grow hI.gr)) ?_
  rintro ⟨_,M1⟩ ⟨d1,rfl,hg1,hd1,h1⟩
  simp only at hg1 h1 ⊢
  refine .bind (refEncode_ok k hk (c:=58) (Src.of (sp:=some 1) h1)) ?_
  rintro ⟨_,M2⟩ ⟨a',rfl,hg2,⟨_,h⟩ | ⟨d,rfl,hd0,hd⟩⟩
  ·omega
  simp only at hg2 hd ⊢
  have hcw:bys 64 (GF.cw gC (sealed u)) = bys 64 (GF.cw gC (msgs w u 3)):=bys_congr fun j _ => GF.cw_congr (fun t ht => by
   show sealed u t = whole w u (3 * 58 + t)
   unfold whole;rw [if_neg (by omega),show 3 * 58 + t - 174 = t by omega]) j
  rw [hcw] at hd
  have hg12:=hg1.trans hg2
  have row2:=(hI.row.grow hg12).grow (Gr.app M2 [.live [.slice (some ⟨d,0,some 1⟩) 64 64]])
  obtain ⟨M5,q1,_⟩:=row2.app (d:=d) (by have:=hI.gr.len;have:=hg12.len;simp;omega) (by omega)
  obtain ⟨n1,n2,hI2⟩:=hI.next hg12 (by have:=hg1.len;omega) hd (by omega) (M4:=M5) q1
  simp only at hI2
  simp (disch:=omega) only [SX,plus,rdSl_new,q1]
  rcases hI2.row with ⟨h,_⟩ | ⟨q,hq,hq1,hq2⟩
  ·cases h
  exact .some ⟨q,_,by rw [hq],rfl,hI2.gr,hq1,hq2,fun i hi => ⟨(hI2.D_ i hi).1,(hI2.D_ i hi).2.1⟩⟩
end Go.Proofs.YtchonnaoojpdoaaGreat
set_option linter.unusedVariables false
set_option linter.unusedSectionVars false
set_option linter.unusedSimpArgs false
namespace Go.Proofs.YtchonnaoojpdoaaGreat
open Go.Mx
theorem Ac.mono {b b':Nat} {m:Mem} {a:Option Addr} {n:Nat} {w:Nat → GF} (h:Ac b m a n w) (hb:b' ≤ b):Ac b' m a n w:=by
 rcases h with h | ⟨d,h1,h2,h3⟩
 ·exact .inl h
 ·exact .inr ⟨d,h1,by omega,h3⟩
def pgR (p:PgT) (s:Sl):List Value:=[.bool p.tagged,.int .i64 p.tag.place,.int .i64 p.tag.of_,.int .i64 p.tag.seq,.int .i64 p.tag.copy,.bool p.tag.lost,.bool p.sound,.slice s.a s.len s.cap,.int .i64 (p.dmg:Nat)]
def PgR (b:Nat) (m':Mem) (cs:List Value) (q:PgT):Prop:=∃ s:Sl,cs = pgR q s ∧ s.len = q.n ∧ Ac b m' s.a q.n q.w
theorem bodyR2 (k:Nat) (hk:1000 < k) {m:Mem} {ad:Addr} {ca:Nat} {w:Nat → GF} (hw:Src m (some ad) 256 w) (hs:okS ad) (hca:256 ≤ ca) :
 Ok (patinaref06_Body k (some ad) 256 ca m) fun r => Gr m r.2.2.2 ∧ (((bodyS 256 w).e = 0 ∧ ∃ d,r.1 = ⟨some ⟨d,0,some 1⟩,50,64⟩ ∧ r.2.2.1 = 0 ∧ Src r.2.2.2 (some ⟨d,0,some 1⟩) 50 (bodyS 256 w).w) ∨ ((bodyS 256 w).e ≠ 0 ∧ r.2.2.1 = (bodyS 256 w).e)):=by
 refine (refBody_ok k hk hw hs hca).mono ?_
 rintro ⟨_,_,_,m1⟩ ⟨hg,⟨u,a,d,h1,hm,rfl,rfl,rfl,h2⟩ | ⟨u,a,h1,hm,rfl,rfl,rfl⟩ | ⟨h1,rfl,rfl,rfl⟩⟩
 ·unfold bodyS
  simp only [if_true,h1,if_pos hm]
  exact ⟨hg,.inl ⟨trivial,d,rfl,trivial,h2⟩⟩
 ·unfold bodyS
  simp only [if_true,h1,if_neg hm]
  exact ⟨hg,.inr ⟨by simp [Told.no],rfl⟩⟩
 ·unfold bodyS
  simp only [if_true,h1]
  exact ⟨hg,.inr ⟨by simp [Told.no],rfl⟩⟩
theorem dataR2 (k:Nat) (hk:1000 < k) {m:Mem} {ad:Addr} {ca:Nat} {w:Nat → GF} (hw:Src m (some ad) 256 w) (hs:okS ad) (hca:256 ≤ ca) :
 Ok (patinaref06_Data k (some ad) 256 ca m) fun r => r.1.len = (dataS 256 w).n ∧ Ac m.length r.2.2.2 r.1.a (dataS 256 w).n (dataS 256 w).w ∧ r.2.2.1 = (dataS 256 w).e ∧ Gr m r.2.2.2:=by
 refine (refData_ok k hk hw hs hca).mono ?_
 rintro ⟨_,_,_,m1⟩ ⟨hg,⟨U,N,hd,h1,rfl,rfl,h4⟩ | ⟨j,hj,h1,rfl,rfl,rfl⟩⟩
 ·have hU:∀ j,j < 3 → dW w j = U j ∧ dN w j = N j ∧ dIs w j:=fun j hj => by
   unfold dW dN dIs;rw [hd j hj];exact ⟨rfl,rfl,by simp⟩
  unfold dataS
  rw [if_pos rfl,if_pos ⟨(hU 0 (by omega)).2.2,(hU 1 (by omega)).2.2,(hU 2 (by omega)).2.2⟩]
  refine ⟨h1,h4.congr fun i hi => ?_,rfl,hg⟩
  show _ = dW w (i / 58) (i % 58)
  rw [(hU (i / 58) (by omega)).1]
 ·unfold dataS
  rw [if_pos rfl,if_neg ?_]
  ·exact ⟨rfl,.inl ⟨rfl,rfl⟩,rfl,hg⟩
  ·rintro ⟨a,b,c⟩
   have:j = 0 ∨ j = 1 ∨ j = 2:=by omega
   rcases this with rfl | rfl | rfl
   ·exact a h1
   ·exact b h1
   ·exact c h1
theorem told_ok (k:Nat) (hk:1000 < k) {m:Mem} {ad:Addr} {ca:Nat} {w:Nat → GF} (hw:Src m (some ad) 256 w) (hs:okS ad) (hca:256 ≤ ca) (p:Int) :
 Ok (patinaref08_Told k (some ad) 256 ca p m) fun r => Gr m r.2 ∧ PgR m.length r.2 r.1 (pgS w p):=by
 unfold patinaref08_Told
 have hz:([.bool false,.int .i64 0,.int .i64 0,.int .i64 0,.int .i64 0,.bool false,.bool false,.slice none 0 0,.int .i64 0]:List Value) = pgR (.no 0) ⟨none,0,0⟩:=rfl
 simp only [hz]
 have z3:(m ++ [MObj.live (pgR (.no 0) ⟨none,0,0⟩)])[m.length]? = some (.live (pgR (.no 0) ⟨none,0,0⟩)):=get_last rfl
 have g3:=Gr.app m [.live (pgR (.no 0) ⟨none,0,0⟩)]
 have l3:(m ++ [MObj.live (pgR (.no 0) ⟨none,0,0⟩)]).length = m.length + 1:=by simp
 generalize m ++ [MObj.live (pgR (.no 0) ⟨none,0,0⟩)] = m3 at *
 have z10:(m3 ++ [MObj.live (pgR (.no 0) ⟨none,0,0⟩)])[m3.length]? = some (.live (pgR (.no 0) ⟨none,0,0⟩)):=get_last rfl
 have g10:=Gr.app m3 [.live (pgR (.no 0) ⟨none,0,0⟩)]
 have r3:=hw.grow g3
 have ending:∀ (M':Mem) (q:PgT) (s:Sl),Gr m3 M' → M'[m3.length]? = some (.live (pgR q s)) → q = pgS w p → s.len = q.n → Ac m3.length M' s.a q.n q.w →
  Ok ((ldCells M' ⟨m3.length,0,none⟩ 9).bind fun t8 => bif Nat.beq (List.length t8) 9 then ((stCells M' ⟨m.length,0,none⟩ t8).bind fun m9 => (ldCells m9 ⟨m.length,0,none⟩ 9).bind fun t10 => some (t10,m9)) else none) (fun r => Gr m r.2 ∧ PgR m.length r.2 r.1 (pgS w p)):=by
  intro M' q s hg hq he hl hsrc
  have z4:=hg.get z3
  have c9:ldCells M' ⟨m3.length,0,none⟩ 9 = some (pgR q s):=by rw [ldCells_of (off:=0) (n:=9) hq (Nat.le_refl _)];rfl
  have L9:Nat.beq (pgR q s).length 9 = true:=rfl
  have b1:stCells M' ⟨m.length,0,none⟩ (pgR q s) = some (wr M' m.length (pgR q s)):=stCells_wr z4 (Nat.le_refl _)
  have b2:ldCells (wr M' m.length (pgR q s)) ⟨m.length,0,none⟩ 9 = some (pgR q s):=by rw [ldCells_of (off:=0) (n:=9) (wr_get z4) (Nat.le_refl _)];rfl
  simp only [c9,Option.bind_some,L9,cond_true,b1,b2]
  refine .some ⟨(g3.trans hg).wr (Nat.le_refl _) _,s,by rw [he],by rw [hl,he],?_⟩
  rw [← he]
  exact (hsrc.keep fun q o hq ho => by rw [wr_ne (by omega)];exact ho).mono (by omega)
 refine patinaref08_Told_l0_rule k _ (fun d x0a x0n x0c x1 x4 x5 x6 M' => some ad = x0a ∧ 256 = x0n ∧ ca = x0c ∧ p = x1 ∧ (⟨m.length,0,none⟩:Addr) = x4 ∧ (⟨m3.length,0,none⟩:Addr) = x5 ∧ ∃ j:Nat,x6 = j ∧ j + d = 4 ∧ Gr m3 M' ∧ M'[m3.length]? = some (.live (pgR (.no (mxm w j)) ⟨none,0,0⟩))) ?_ k 4 _ _ _ _ _ _ _ _ (by omega)
  ⟨rfl,rfl,rfl,rfl,rfl,rfl,0,rfl,rfl,g10,z10⟩
 rintro d nx _ _ _ _ _ _ _ M' ⟨rfl,rfl,rfl,rfl,rfl,rfl,j,rfl,hd,hg,hq⟩ hnx
 unfold patinaref08_Told_l0_b
 have rS:=r3.grow hg
 by_cases hj:(j:Int) < 4
 ·simp only [decide_eq_true hj,cond_true]
  refine .bind (msgR k hk rS (fun _ => ⟨_,rfl,hs⟩) hca (j:Int)) ?_
  rintro ⟨s,a,ev,M2⟩ ⟨q0,q1,rfl,rfl,q3⟩
  simp only at q1 q3 ⊢
  have hq2:=q3.get hq
  have nx1:∀ M3,Gr m3 M3 → M3[m3.length]? = some (.live (pgR (.no (mxm w (j + 1))) ⟨none,0,0⟩)) → Ok (patinaref08_Told_j1 k (some ad) 256 ca p ⟨m.length,0,none⟩ ⟨m3.length,0,none⟩ (j:Int) nx M3) (fun r => Gr m r.2 ∧ PgR m.length r.2 r.1 (pgS w p)):=fun M3 h1 h2 => by
   unfold patinaref08_Told_j1
   exact hnx (d - 1) _ _ _ _ _ _ _ _ (by omega) ⟨rfl,rfl,rfl,rfl,rfl,rfl,j + 1,by rw [wrap_i64 (by omega) (by omega)];push_cast;rfl,by omega,h1,h2⟩
  by_cases he:(msgS 256 w (j:Int)).e = 0
  ·have be:((msgS 256 w (j:Int)).e == 0) = true:=by rw [he];rfl
   have e9:mxm w (j + 1) = max (mxm w j) (msgS 256 w (j:Int)).a:=by show (if _ then _ else _) = _;rw [if_pos he]
   have l8:ldInt .i64 M2 ⟨m3.length,8,none⟩ = some ((mxm w j:Nat):Int):=ldInt_of hq2 rfl
   simp only [be,cond_true,plus,Nat.zero_add,l8,Option.bind_some]
   by_cases hgt:((msgS 256 w (j:Int)).a:Int) > ((mxm w j:Nat):Int)
   ·have s8:st M2 ⟨m3.length,8,none⟩ (.int .i64 ((msgS 256 w (j:Int)).a:Int)) = some (wr M2 m3.length (pgR (.no (mxm w (j + 1))) ⟨none,0,0⟩)):=by
     rw [st_wr hq2 (by simp [pgR]),e9,Nat.max_eq_right (by omega)];rfl
    rw [decide_eq_true hgt,cond_true,s8,Option.bind_some]
    exact nx1 _ ((hg.trans q3).wr (Nat.le_refl _) _) (wr_get hq2)
   ·rw [decide_eq_false hgt,cond_false]
    exact nx1 _ (hg.trans q3) (by rw [e9,Nat.max_eq_left (by omega)];exact hq2)
  ·have be:((msgS 256 w (j:Int)).e == 0) = false:=beq_eq_false_iff_ne.2 he
   have e9':mxm w (j + 1) = mxm w j:=by show (if _ then _ else _) = _;rw [if_neg he]
   rw [be,cond_false]
   exact nx1 _ (hg.trans q3) (by rw [e9'];exact hq2)
 ·clear hnx
  obtain rfl:j = 4:=by omega
  rw [decide_eq_false hj,cond_false]
  refine .bind (bodyR2 k hk rS hs hca) ?_
  rintro ⟨s,a,ev,M2⟩ ⟨q3,bod⟩
  simp only at q3 bod ⊢
  have gg:=hg.trans q3
  have hq2:=q3.get hq
  have noE:∀ (M3:Mem),Gr m3 M3 → M3[m3.length]? = some (.live (pgR (.no (mxm w 4)) ⟨none,0,0⟩)) → pgS w p = .no (mxm w 4) → Ok ((ldCells M3 ⟨m3.length,0,none⟩ 9).bind fun t8 => bif Nat.beq (List.length t8) 9 then ((stCells M3 ⟨m.length,0,none⟩ t8).bind fun m9 => (ldCells m9 ⟨m.length,0,none⟩ 9).bind fun t10 => some (t10,m9)) else none) (fun r => Gr m r.2 ∧ PgR m.length r.2 r.1 (pgS w p)):=fun M3 h1 h2 h3 =>
   ending M3 _ ⟨none,0,0⟩ h1 h2 h3.symm rfl (.inl ⟨rfl,rfl⟩)
  rcases bod with ⟨he,d,rfl,rfl,q4⟩ | ⟨he,rfl⟩
  ·have b0:((0:Int) != 0) = false:=rfl
   rw [b0,cond_false]
   refine .bind (refTag_ok k (by omega) (c:=64) q4 (.inr rfl) (by omega)) ?_
   rintro ⟨tc,te,M3⟩ ⟨g4,dec⟩
   simp only at g4 dec ⊢
   have hzt:([.int .i64 0,.int .i64 0,.int .i64 0,.int .i64 0,.bool false]:List Value) = tagC ztag:=rfl
   have gg3:=gg.trans g4
   have hq3:=g4.get hq2
   have tagst:∀ t,stCells (M3 ++ [.live (tagC ztag)]) ⟨M3.length,0,none⟩ (tagC t) = some (M3 ++ [.live (tagC t)]):=fun t => by rw [stCells_wr (get_last rfl) (Nat.le_refl _),wr_last rfl];rfl
   have L5:∀ t,Nat.beq (tagC t).length 5 = true:=fun _ => rfl
   rcases dec with ⟨t,ht,rfl,rfl⟩ | ⟨ht,rfl,rfl⟩
   ·have gt:=Gr.app M3 [.live (tagC t)]
    have lt':(M3 ++ [MObj.live (tagC t)]).length = M3.length + 1:=by simp
    have xt:(M3 ++ [MObj.live (tagC t)])[M3.length]? = some (.live (tagC t)):=get_last rfl
    have hq4:=gt.get hq3
    have lp:ldInt .i64 (M3 ++ [.live (tagC t)]) ⟨M3.length,0,none⟩ = some t.place:=ldInt_of xt rfl
    have gg4:=gg3.trans gt
    simp only [hzt,L5,cond_true,tagst,Option.bind_some,Bool.not_true,cond_false,plus,Nat.zero_add,lp]
    generalize M3 ++ [.live (tagC t)] = M4 at *
    by_cases hpl:t.place = p
    ·have b1:(t.place != p) = false:=by rw [hpl];simp
     have ct:ldCells M4 ⟨M3.length,0,none⟩ 5 = some (tagC t):=by rw [ldCells_of (off:=0) (n:=5) xt (Nat.le_refl _)];rfl
     have m3lt:m3.length ≠ M3.length:=fun he' => by rw [← he',hq4] at xt;simp only [Option.some.injEq,MObj.live.injEq] at xt;have:=congrArg List.length xt;simp [pgR,tagC] at this
     have s0:st M4 ⟨m3.length,0,none⟩ (.bool true) = some (wr M4 m3.length (pgR ⟨true,ztag,false,0,fun _ => 0,mxm w 4⟩ ⟨none,0,0⟩)):=by rw [st_wr hq4 (by simp [pgR])];rfl
     have hq5:=wr_get (cs:=pgR ⟨true,ztag,false,0,fun _ => 0,mxm w 4⟩ ⟨none,0,0⟩) hq4
     have ct2:ldCells (wr M4 m3.length (pgR ⟨true,ztag,false,0,fun _ => 0,mxm w 4⟩ ⟨none,0,0⟩)) ⟨M3.length,0,none⟩ 5 = some (tagC t):=by rw [ldCells_of (off:=0) (n:=5) (by rw [wr_ne m3lt];exact xt) (Nat.le_refl _)];rfl
     have s1:stCells (wr M4 m3.length (pgR ⟨true,ztag,false,0,fun _ => 0,mxm w 4⟩ ⟨none,0,0⟩)) ⟨m3.length,1,none⟩ (tagC t) = some (wr M4 m3.length (pgR ⟨true,t,false,0,fun _ => 0,mxm w 4⟩ ⟨none,0,0⟩)):=by rw [stCells_wr hq5 (by simp [pgR,tagC]),wr_wr];rfl
     simp only [b1,cond_false,Option.bind_some,s0,L5,cond_true,s1,ct2]
     have gg5:=gg4.wr (Nat.le_refl _) (pgR ⟨true,t,false,0,fun _ => 0,mxm w 4⟩ ⟨none,0,0⟩)
     have hq6:=wr_get (cs:=pgR ⟨true,t,false,0,fun _ => 0,mxm w 4⟩ ⟨none,0,0⟩) hq4
     generalize wr M4 m3.length (pgR ⟨true,t,false,0,fun _ => 0,mxm w 4⟩ ⟨none,0,0⟩) = M5 at *
     refine .bind (dataR2 k hk (r3.grow gg5) hs hca) ?_
     rintro ⟨s,a,ev,M6⟩ ⟨v0,v1,rfl,v3⟩
     simp only at v0 v1 v3 ⊢
     have hq7:=v3.get hq6
     have gg6:=gg5.trans v3
     have l6':=get_lt hq6
     have l5':=gg5.len
     by_cases hde:(dataS 256 w).e = 0
     ·have be:((dataS 256 w).e != 0) = false:=by rw [hde];rfl
      have s6:st M6 ⟨m3.length,6,none⟩ (.bool true) = some (wr M6 m3.length (pgR ⟨true,t,true,0,fun _ => 0,mxm w 4⟩ ⟨none,0,0⟩)):=by rw [st_wr hq7 (by simp [pgR])];rfl
      have s7:st (wr M6 m3.length (pgR ⟨true,t,true,0,fun _ => 0,mxm w 4⟩ ⟨none,0,0⟩)) ⟨m3.length,7,none⟩ (.slice s.a s.len s.cap) = some (wr M6 m3.length (pgR ⟨true,t,true,(dataS 256 w).n,(dataS 256 w).w,mxm w 4⟩ s)):=by rw [st_wr (wr_get hq7) (by simp [pgR]),wr_wr];rfl
      simp only [be,cond_false,s6,Option.bind_some,s7]
      refine ending _ ⟨true,t,true,(dataS 256 w).n,(dataS 256 w).w,mxm w 4⟩ s (gg6.wr (Nat.le_refl _) _) (wr_get hq7) ?_ v0 ?_
      ·unfold pgS
       rw [if_pos he,ht]
       simp only [if_pos hpl,if_pos hde]
      ·exact (v1.keep fun q o hq ho => by rw [wr_ne (by omega)];exact ho).mono (by omega)
     ·have be:((dataS 256 w).e != 0) = true:=by simpa using hde
      rw [be,cond_true]
      refine ending M6 ⟨true,t,false,0,fun _ => 0,mxm w 4⟩ ⟨none,0,0⟩ gg6 hq7 ?_ rfl (.inl ⟨rfl,rfl⟩)
      unfold pgS
      rw [if_pos he,ht]
      simp only [if_pos hpl,if_neg hde]
    ·have b1:(t.place != p) = true:=by simpa using hpl
     rw [b1,cond_true]
     refine noE M4 gg4 hq4 ?_
     unfold pgS
     rw [if_pos he,ht]
     simp only [if_neg hpl]
   ·simp only [hzt,L5,cond_true,tagst,Option.bind_some,Bool.not_false]
    refine noE _ (gg3.trans (Gr.app _ _)) ((Gr.app M3 [.live (tagC ztag)]).get hq3) ?_
    unfold pgS
    rw [if_pos he,ht]
  ·have be:((bodyS 256 w).e != 0) = true:=by simpa using he
   rw [be,cond_true]
   refine noE M2 gg hq2 ?_
   unfold pgS
   rw [if_neg he]
end Go.Proofs.YtchonnaoojpdoaaGreat
set_option linter.unusedVariables false
set_option linter.unusedSectionVars false
set_option linter.unusedSimpArgs false
namespace Go.Proofs.YtchonnaoojpdoaaGreat
open Go.Mx
structure Lm (R:Nat) (m m':Mem) (lab lab':Nat → Option Lab):Prop where
 ch:Ch (fun p => lab p ≠ none ∨ p = R) m m'
 same:∀ p,lab p ≠ none → lab' p = lab p
 new:∀ p,lab' p ≠ none → lab p ≠ none ∨ m.length ≤ p
theorem Lm.of {R:Nat} {m m':Mem} {lab:Nat → Option Lab} (h:Ch (fun p => lab p ≠ none ∨ p = R) m m'):Lm R m m' lab lab:=⟨h,fun _ _ => rfl,fun _ h => .inl h⟩
theorem Lm.gr {R:Nat} {m m':Mem} {lab:Nat → Option Lab} (h:Gr m m'):Lm R m m' lab lab:=.of h.ch
theorem Lx.lm {R:Nat} {m m':Mem} {lab lab':Nat → Option Lab} (h:Lx m m' lab lab'):Lm R m m' lab lab' :=
 ⟨⟨h.ch.len,fun p hp hn => h.ch.get p hp fun h2 => hn (.inl h2)⟩,h.same,h.new⟩
theorem Lm.trans {R:Nat} {m m' m'':Mem} {lab lab' lab'':Nat → Option Lab} (h:Lm R m m' lab lab') (h':Lm R m' m'' lab' lab''):Lm R m m'' lab lab'' :=
 ⟨h.ch.more h'.ch fun p hp hl => by
  rcases hl with hl | hl
  ·rcases h.new p hl with h1 | h1
   ·exact .inl h1
   ·omega
  ·exact .inr hl,
  fun p hp => by rw [h'.same p (by rw [h.same p hp];exact hp),h.same p hp],
  fun p hp => by rcases h'.new p hp with h1 | h1
                 ·exact h.new p h1
                 ·right;have:=h.ch.len;omega⟩
def rmed (r:Nat) (n:Int):List Value:=[.pointer (some ⟨r,0,none⟩),.int .i64 n]
structure RI (M:Mem) (R r:Nat) (lab:Nat → Option Lab) (g:RG) (σ:ChipS) (n:Int):Prop where
 med:M[R]? = some (.live (rmed r n))
 ref:RefX M r lab g σ
 nl:lab R = none
section
variable {M M':Mem} {R r:Nat} {lab lab':Nat → Option Lab} {g g':RG} {σ σ':ChipS} {n n':Int}
theorem RI.grow (h:RI M R r lab g σ n) (hg:Gr M M'):RI M' R r lab g σ n:=⟨hg.get h.med,h.ref.grow hg,h.nl⟩
theorem RI.lx (h:RI M R r lab g σ n) (hr:RefX M' r lab' g' σ') (hl:Lx M M' lab lab'):RI M' R r lab' g' σ' n:=by
 refine ⟨hl.ch.old h.med (by rw [h.nl];simp),hr,?_⟩
 cases hR:lab' R with
 | none => rfl
 | some x =>
  rcases hl.new R (by rw [hR];simp) with h1 | h1
  ·exact absurd h.nl h1
  ·have:=get_lt h.med;omega
theorem RI.wr (h:RI M R r lab g σ n) (q:Nat) (cs:List Value) (hq:lab q = none) (hR:q ≠ R):RI (wr M q cs) R r lab g σ n :=
 ⟨by rw [wr_ne hR];exact h.med,h.ref.keep (by rw [wr_len];exact Nat.le_refl _) fun p hp => wr_ne fun he => by subst he;exact hp hq,h.nl⟩
theorem RI.keep (h:RI M R r lab g σ n) (hl:M.length ≤ M'.length) (hk:∀ p,lab p ≠ none ∨ p = R → M'[p]? = M[p]?):RI M' R r lab g σ n :=
 ⟨by rw [hk R (.inr rfl)];exact h.med,h.ref.keep hl fun p hp => hk p (.inl hp),h.nl⟩
theorem pgS_lt (W:Nat → GF) (p:Int):(pgS W p).n < 1000:=by
 unfold pgS
 split
 ·split
  ·simp [PgT.no]
  ·split
   ·split
    ·exact dataS_len
    ·simp
   ·simp [PgT.no]
 ·simp [PgT.no]
theorem pgS_tagged {W:Nat → GF} {p:Int} (h:(pgS W p).sound = true):(pgS W p).tagged = true:=by
 unfold pgS at *
 split
 ·rename_i he
  rw [if_pos he] at h
  split
  ·rename_i ht;rw [ht] at h;cases h
  ·rename_i t ht
   rw [ht] at h
   simp only at h
   split
   ·rename_i hp
    rw [if_pos hp] at h
    split
    ·rfl
    ·rfl
   ·rename_i hp;rw [if_neg hp] at h;cases h
 ·rename_i he;rw [if_neg he] at h;cases h
def RRd (M:Mem) (R r:Nat) (lab:Nat → Option Lab) (g:RG) (σ:ChipS) (n:Int) (p:Int) (W:Nat → GF) (x:List Value × Int × Mem):Prop :=
 Lm R M x.2.2 lab lab ∧ (((¬ (0 ≤ p ∧ p < 96) ∨ σ.off = true) ∧ PgR M.length x.2.2 x.1 (.no 0) ∧ x.2.1 = (if 0 ≤ p ∧ p < 96 then 7 else 1) ∧ RI x.2.2 R r lab g σ n) ∨
  ((0 ≤ p ∧ p < 96) ∧ σ.off = false ∧ PgR M.length x.2.2 x.1 (pgS W p) ∧ x.2.1 = 0 ∧ RI x.2.2 R r lab g (σ.readd p) (n + 1)))
theorem refMRead_ok (k:Nat) (hk:1000 < k) {N:Nat} (h:RI M R r lab g σ n) (hw:Wf N σ) (hN:N < 400000000000000) (hn:0 ≤ n ∧ n < 4611686018427387904) (p:Int) {W:Nat → GF}
 (hW:0 ≤ p ∧ p < 96 → σ.off = false → ∀ (q i:Nat),q < 4 → i < 64 → (σ.at_ p q).now i = ((W (q * 64 + i)).v:Int)) :
 Ok (patinaref08_Media_Read k (some ⟨R,0,none⟩) p M) (RRd M R r lab g σ n p W):=by
 unfold patinaref08_Media_Read
 have hz:([.bool false,.int .i64 0,.int .i64 0,.int .i64 0,.int .i64 0,.bool false,.bool false,.slice none 0 0,.int .i64 0]:List Value) = pgR (.no 0) ⟨none,0,0⟩:=rfl
 have g1:=Gr.app M [.live (pgR (.no 0) ⟨none,0,0⟩)]
 have h1:=h.grow g1
 have z1:(M ++ [MObj.live (pgR (.no 0) ⟨none,0,0⟩)])[M.length]? = some (.live (pgR (.no 0) ⟨none,0,0⟩)):=get_last rfl
 have l1:ldPtr (M ++ [.live (pgR (.no 0) ⟨none,0,0⟩)]) ⟨R,0,none⟩ = some (some ⟨r,0,none⟩):=ldPtr_of h1.med rfl
 have ml:(M ++ [MObj.live (pgR (.no 0) ⟨none,0,0⟩)]).length = M.length + 1:=by simp
 have Rlt:=get_lt h.med
 simp only [hz,Option.bind_some,plus,Nat.zero_add,l1]
 generalize M ++ [MObj.live (pgR (.no 0) ⟨none,0,0⟩)] = M1 at *
 have ln:lab M.length = none:=by
  cases hc:lab M.length with
  | none => rfl
  | some x => have:=h.ref.lt M.length (by rw [hc];simp);omega
 have st1:stCells M1 ⟨M.length,0,none⟩ (pgR (.no 0) ⟨none,0,0⟩) = some (Mx.wr M1 M.length (pgR (.no 0) ⟨none,0,0⟩)):=stCells_wr z1 (Nat.le_refl _)
 have c1:ldCells (Mx.wr M1 M.length (pgR (.no 0) ⟨none,0,0⟩)) ⟨M.length,0,none⟩ 9 = some (pgR (.no 0) ⟨none,0,0⟩):=by rw [ldCells_of (off:=0) (n:=9) (wr_get z1) (Nat.le_refl _)];rfl
 have fin0:RI (Mx.wr M1 M.length (pgR (.no 0) ⟨none,0,0⟩)) R r lab g σ n:=h1.wr _ _ ln (by omega)
 have finL:Lm R M (Mx.wr M1 M.length (pgR (.no 0) ⟨none,0,0⟩)) lab lab:=.of ((Gr.ch g1).wr (.inr (Nat.le_refl _)) _)
 by_cases hp:0 ≤ p ∧ p < 96
 ·by_cases ho:σ.off = true
  ·have b7:((7:Int) != 0) = true:=rfl
   rw [refRead_off h1.ref k hp ho]
   simp only [Option.bind_some,b7,cond_true,st1,c1]
   exact .some ⟨finL,.inl ⟨.inr ho,⟨_,rfl,rfl,.inl ⟨rfl,rfl⟩⟩,by rw [if_pos hp],fin0⟩⟩
  ·have ho:σ.off = false:=by simpa using ho
   have hrd:=hw.rd (p / 8)
   refine .bind (refRead_ok h1.ref k (by omega) hp ho ⟨hrd.1,by omega⟩ (hW hp ho)) ?_
   rintro ⟨_,_,M2⟩ ⟨d,rfl,rfl,hR2,ch2,hd,hd2⟩
   simp only at hR2 ch2 hd2 ⊢
   have b0:((0:Int) != 0) = false:=rfl
   have med2:M2[R]? = some (.live (rmed r n)):=ch2.old h1.med (by rw [h.nl];simp)
   have l2:ldInt .i64 M2 ⟨R,1,none⟩ = some n:=ldInt_of med2 rfl
   have w2:IntKind.wrap .i64 (n + 1) = n + 1:=wrap_i64 (by omega) (by omega)
   have s2:st M2 ⟨R,1,none⟩ (.int .i64 (n + 1)) = some (Mx.wr M2 R (rmed r (n + 1))):=by rw [st_wr med2 (by simp [rmed])];rfl
   have z2:=ch2.old z1 (by rw [ln];simp)
   have hR3:RI (Mx.wr M2 R (rmed r (n + 1))) R r lab g (σ.readd p) (n + 1):=⟨wr_get med2,hR2.keep (by rw [wr_len];exact Nat.le_refl _) fun q hq => wr_ne fun he => by subst he;exact hq h.nl,h.nl⟩
   have z3:(Mx.wr M2 R (rmed r (n + 1)))[M.length]? = some (.live (pgR (.no 0) ⟨none,0,0⟩)):=by rw [wr_ne (by omega)];exact z2
   have d3:(Mx.wr M2 R (rmed r (n + 1)))[d]? = some (.live (bys 256 W)):=by rw [wr_ne (by omega)];exact hd2
   have lm3:Lm R M (Mx.wr M2 R (rmed r (n + 1))) lab lab:=by
    refine (Lm.gr g1).trans (.of ?_)
    exact Ch.wr ⟨ch2.len,fun q hq hn' => ch2.get q hq fun h2 => hn' (.inl h2)⟩ (.inl (.inr rfl)) _
   have len3:M1.length ≤ (Mx.wr M2 R (rmed r (n + 1))).length:=by rw [wr_len];exact ch2.len
   simp only [b0,cond_false,l2,Option.bind_some,w2,s2]
   generalize Mx.wr M2 R (rmed r (n + 1)) = M3 at *
   refine .bind (told_ok k hk (ca:=256) (Src.of (sp:=some 1) d3) (.inr rfl) (Nat.le_refl _) p) ?_
   rintro ⟨cs,M4⟩ ⟨g4,s,rfl,hl,hA⟩
   simp only at g4 hl hA ⊢
   have z4:=g4.get z3
   have L9:Nat.beq (pgR (pgS W p) s).length 9 = true:=rfl
   have st4:stCells M4 ⟨M.length,0,none⟩ (pgR (pgS W p) s) = some (Mx.wr M4 M.length (pgR (pgS W p) s)):=stCells_wr z4 (Nat.le_refl _)
   have c4:ldCells (Mx.wr M4 M.length (pgR (pgS W p) s)) ⟨M.length,0,none⟩ 9 = some (pgR (pgS W p) s):=by rw [ldCells_of (off:=0) (n:=9) (wr_get z4) (Nat.le_refl _)];rfl
   simp only [L9,cond_true,st4,Option.bind_some,c4]
   refine .some ⟨?_,.inr ⟨hp,ho,⟨s,rfl,hl,(hA.keep fun q o hq ho => by rw [wr_ne (by omega)];exact ho).mono (by omega)⟩,rfl,(hR3.grow g4).wr _ _ ln (by omega)⟩⟩
   have l4:=lm3.trans (Lm.gr g4)
   exact .of (l4.ch.wr (.inr (Nat.le_refl _)) _)
 ·have b1:((1:Int) != 0) = true:=rfl
  rw [refRead_no h1.ref k hp]
  simp only [Option.bind_some,b1,cond_true,st1,c1]
  exact .some ⟨finL,.inl ⟨.inl hp,⟨_,rfl,rfl,.inl ⟨rfl,rfl⟩⟩,by rw [if_neg hp],fin0⟩⟩
end
end Go.Proofs.YtchonnaoojpdoaaGreat
set_option linter.unusedVariables false
set_option linter.unusedSectionVars false
set_option linter.unusedSimpArgs false
namespace Go.Proofs.YtchonnaoojpdoaaGreat
open Go.Mx
def RPr (M:Mem) (R r:Nat) (lab:Nat → Option Lab) (σ:ChipS) (n:Int) (t:TagT) (p:Int) (nn:Nat) (w W:Nat → GF) (x:Int × Mem):Prop :=
 ∃ lab' g' σ' n',RI x.2 R r lab' g' σ' n' ∧ Lm R M x.2 lab lab' ∧
  ((¬ (t.ok ∧ t.place = p ∧ nn = 174) ∧ x.1 = 1 ∧ σ' = σ ∧ n' = n) ∨
    ((t.ok ∧ t.place = p ∧ nn = 174) ∧ ((wrN p (cws t w) 4 0 σ).1 ≠ 0 ∧ x.1 = (wrN p (cws t w) 4 0 σ).1 ∧ σ' = (wrN p (cws t w) 4 0 σ).2 ∧ n' = n ∨
      (wrN p (cws t w) 4 0 σ).1 = 0 ∧ (good W p t w → x.1 = 0) ∧ (¬ good W p t w → x.1 = 8) ∧ σ' = (wrN p (cws t w) 4 0 σ).2.readd p ∧ n' = n + 1)))
section
variable {M M':Mem} {R r:Nat} {lab lab':Nat → Option Lab} {g g':RG} {σ σ':ChipS} {n n':Int}
open Classical in
theorem refMProgram_ok (k:Nat) (hk:1000 < k) {N:Nat} (h:RI M R r lab g σ n) (hw:Wf N σ) (hN:N < 300000000000000) (hn:0 ≤ n ∧ n < 4611686018427387904) {t:TagT} {D nn ca:Nat} {w:Nat → GF} (ha:M[D]? = some (.live (bys nn w))) (hDl:lab D = none) (hDR:D ≠ R) (hca:nn ≤ ca) (p:Int) {W:Nat → GF}
 (hW:(wrN p (cws t w) 4 0 σ).1 = 0 → ∀ (q i:Nat),q < 4 → i < 64 → ((wrN p (cws t w) 4 0 σ).2.at_ p q).now i = ((W (q * 64 + i)).v:Int)) :
 Ok (patinaref08_Media_Program k (some ⟨R,0,none⟩) p (tagC t) (some ⟨D,0,none⟩) nn ca M) (RPr M R r lab σ n t p nn w W):=by
 unfold patinaref08_Media_Program
 have L5:Nat.beq (tagC t).length 5 = true:=rfl
 have g1:=Gr.app M [.live (tagC t)]
 have x1:(M ++ [MObj.live (tagC t)])[M.length]? = some (.live (tagC t)):=get_last rfl
 have c1:ldCells (M ++ [.live (tagC t)]) ⟨M.length,0,none⟩ 5 = some (tagC t):=by rw [ldCells_of (off:=0) (n:=5) x1 (Nat.le_refl _)];rfl
 have g2:=g1.trans (Gr.app (M ++ [.live (tagC t)]) [.live (tagC t)])
 have x2:=(Gr.app (M ++ [.live (tagC t)]) [.live (tagC t)]).get x1
 have lp:ldInt .i64 ((M ++ [.live (tagC t)]) ++ [.live (tagC t)]) ⟨M.length,0,none⟩ = some t.place:=ldInt_of x2 rfl
 have c2:ldCells ((M ++ [.live (tagC t)]) ++ [.live (tagC t)]) ⟨M.length,0,none⟩ 5 = some (tagC t):=by rw [ldCells_of (off:=0) (n:=5) x2 (Nat.le_refl _)];rfl
 have l2:((M ++ [MObj.live (tagC t)]) ++ [MObj.live (tagC t)]).length = M.length + 2:=by simp
 have ln:∀ q,M.length ≤ q → lab q = none:=fun q hq => by
  cases hc:lab q with
  | none => rfl
  | some x => have:=h.ref.lt q (by rw [hc];simp);omega
 have Dlt:=get_lt ha
 simp only [L5,cond_true,c1,Option.bind_some,may_is,plus,Nat.zero_add,lp,c2]
 generalize (M ++ [MObj.live (tagC t)]) ++ [MObj.live (tagC t)] = M2 at *
 by_cases hg:t.ok ∧ t.place = p ∧ nn = 174
 ·have hg':=hg
  obtain ⟨hok,hpl,rfl⟩:=hg
  have hp:0 ≤ p ∧ p < 96:=by rw [← hpl];exact ⟨hok.1,hok.2.1⟩
  have d0:decide (p < 0) = false:=decide_eq_false (by omega)
  have d1:decide (p > 95) = false:=decide_eq_false (by omega)
  have b1:(t.place != p) = false:=by rw [hpl];simp
  have b174:(((174:Nat):Int) != 174) = false:=rfl
  simp only [d0,d1,decide_eq_true hok,Bool.not_true,cond_false,b1,b174]
  refine .bind (refTB_ok k (by omega) hok M2) ?_
  rintro ⟨_,M3⟩ ⟨db,rfl,g3,hdb,hdb2⟩
  simp only at g3 hdb2 ⊢
  have gg3:=g2.trans g3
  refine .bind (refLay_at k hk (ca:=ca) (cb:=50) (Src.of (sp:=none) (gg3.get ha)) (.inl rfl) hca (Src.of (sp:=some 1) hdb2)) ?_
  rintro ⟨_,_,M4⟩ ⟨qq,DD,rfl,rfl,g4,hqq,hrow,hD⟩
  simp only at g4 hrow hD ⊢
  have gg4:=gg3.trans g4
  have l3:=g3.len
  have l4:=g4.len
  have x4:=g4.get (g3.get x2)
  have a4:=gg4.get ha
  have h4:=h.grow gg4
  have cwe:∀ j,GF.cw gC (msgs w (tagW t) j) = cws t w j:=fun j => rfl
  refine patinaref08_Media_Program_l0_rule k _ _ (fun d x0 x1 x3a x3n x3c x6 x10a x10n x10c x12 M' => (some ⟨R,0,none⟩:Option Addr) = x0 ∧ p = x1 ∧ (some ⟨D,0,none⟩:Option Addr) = x3a ∧ 174 = x3n ∧ ca = x3c ∧ (⟨M.length,0,none⟩:Addr) = x6 ∧ (some ⟨qq,0,some 1⟩:Option Addr) = x10a ∧ 4 = x10n ∧ 4 = x10c ∧ ∃ (j:Nat) (lab':Nat → Option Lab) (g':RG) (σ':ChipS),x12 = j ∧ j + d = 4 ∧ Wf (N + j) σ' ∧ wrN p (cws t w) 4 0 σ = wrN p (cws t w) d j σ' ∧ RI M' R r lab' g' σ' n ∧ Lx M4 M' lab lab' ∧ (0 < j → σ'.off = false)) ?_ k 4 _ _ _ _ _ _ _ _ _ _ _ (by omega)
   ⟨rfl,rfl,rfl,rfl,rfl,rfl,rfl,rfl,rfl,0,lab,g,σ,rfl,rfl,hw,rfl,h4,.refl _ _,fun h => by omega⟩
  rintro d nx _ _ _ _ _ _ _ _ _ _ M' ⟨rfl,rfl,rfl,rfl,rfl,rfl,rfl,rfl,rfl,j,lab',g',σ',rfl,hd,hw',hwr,h',hlx,hon⟩ hnx
  unfold patinaref08_Media_Program_l0_b
  have old:∀ q o,M4[q]? = some o → lab q = none → M'[q]? = some o ∧ lab' q = none:=fun q o hq hl => by
   refine ⟨hlx.ch.old hq (by rw [hl];simp),?_⟩
   cases hc:lab' q with
   | none => rfl
   | some x =>
    rcases hlx.new q (by rw [hc];simp) with h1 | h1
    ·exact absurd hl h1
    ·have:=get_lt hq;omega
  by_cases hj:(j:Int) < 4
  ·have tj:Int.toNat (j:Int) = j:=Int.toNat_natCast j
   have i1:inRange (j:Int) 4 = true:=inRange_yes (by omega) hj
   obtain ⟨hD1,hD2⟩:=hD j (by omega)
   obtain ⟨row',_⟩:=old qq _ hrow (ln qq (by omega))
   obtain ⟨dj,djl⟩:=old (DD j) _ hD2 (ln _ (by omega))
   have lr:ldSl M' ⟨qq,j,some 1⟩ = some ⟨some ⟨DD j,0,some 1⟩,64,64⟩:=ldSl_of row' (sls_get (by omega))
   have lc:ldPtr M' ⟨R,0,none⟩ = some (some ⟨r,0,none⟩):=ldPtr_of h'.med rfl
   have hst:=hw'.steps
   obtain ⟨M5,lab5,g5,e2,hR5,hL5⟩:=refWrite_is h'.ref k ⟨hst.1,by omega⟩ hw'.bud hw'.bf p (j:Int) (a:=some ⟨DD j,0,some 1⟩) (n:=64) (cc:=64) (w:=cws t w j) (fun _ M'' hk2 => Src.of (sp:=some 1) (by rw [hk2 _ (get_lt dj) djl];exact dj))
   simp only [decide_eq_true hj,cond_true,Option.bind_some,lc,i1,tj,Nat.mul_one,plus,Nat.zero_add,lr,e2]
   have h5:=h'.lx hR5 hL5
   obtain ⟨d',rfl⟩:∃ d',d = d' + 1:=⟨d - 1,by omega⟩
   have hwr2:wrN p (cws t w) (d' + 1) j σ' = if (σ'.write p j 64 (byI (cws t w j))).1 = 0 then wrN p (cws t w) d' (j + 1) (σ'.write p j 64 (byI (cws t w j))).2 else σ'.write p j 64 (byI (cws t w j)):=rfl
   by_cases he:(σ'.write p j 64 (byI (cws t w j))).1 = 0
   ·rw [if_pos he] at hwr2
    have be:((σ'.write p j 64 (byI (cws t w j))).1 != 0) = false:=by rw [he];rfl
    rw [be,cond_false]
    exact hnx d' _ _ _ _ _ _ _ _ _ _ _ (by omega) ⟨rfl,rfl,rfl,rfl,rfl,rfl,rfl,rfl,rfl,j + 1,lab5,g5,_,by rw [wrap_i64 (by omega) (by omega)];push_cast;rfl,by omega,hw'.write p j 64 _,by rw [hwr,hwr2],h5,hlx.trans hL5,fun _ => write_on he⟩
   ·rw [if_neg he] at hwr2
    have be:((σ'.write p j 64 (byI (cws t w j))).1 != 0) = true:=by simpa using he
    rw [be,cond_true]
    exact .some ⟨lab5,g5,_,n,h5,(Lm.gr gg4).trans (hlx.trans hL5).lm,.inr ⟨hg',.inl ⟨by rw [hwr,hwr2];exact he,by rw [hwr,hwr2],by rw [hwr,hwr2],rfl⟩⟩⟩
  ·clear hnx
   obtain rfl:j = 4:=by omega
   obtain rfl:d = 0:=by omega
   have hwr:wrN p (cws t w) 4 0 σ = (0,σ'):=hwr
   rw [decide_eq_false hj,cond_false]
   have hW':∀ (q i:Nat),q < 4 → i < 64 → (σ'.at_ p q).now i = ((W (q * 64 + i)).v:Int):=by
    have:=hW (by rw [hwr])
    rw [hwr] at this
    exact this
   refine .bind (refMRead_ok k hk h' hw' (by omega) hn p (W:=W) fun _ _ => hW') ?_
   rintro ⟨cs,ev,M6⟩ ⟨hl6,⟨hbad,_⟩ | ⟨_,_,⟨s,rfl,hsl,hA⟩,rfl,h6⟩⟩
   ·rcases hbad with h1 | h1
    ·exact absurd hp h1
    ·rw [hon (by omega)] at h1;cases h1
   simp only at hl6 hA h6 ⊢
   have hz:([.bool false,.int .i64 0,.int .i64 0,.int .i64 0,.int .i64 0,.bool false,.bool false,.slice none 0 0,.int .i64 0]:List Value) = pgR (.no 0) ⟨none,0,0⟩:=rfl
   have L9:Nat.beq (pgR (pgS W p) s).length 9 = true:=rfl
   have st9:stCells (M6 ++ [.live (pgR (.no 0) ⟨none,0,0⟩)]) ⟨M6.length,0,none⟩ (pgR (pgS W p) s) = some (M6 ++ [.live (pgR (pgS W p) s)]):=by rw [stCells_wr (get_last rfl) (Nat.le_refl _),wr_last rfl];rfl
   have b0:((0:Int) != 0) = false:=rfl
   have g7:=Gr.app M6 [.live (pgR (pgS W p) s)]
   have x7:(M6 ++ [MObj.live (pgR (pgS W p) s)])[M6.length]? = some (.live (pgR (pgS W p) s)):=get_last rfl
   simp only [hz,L9,cond_true,st9,Option.bind_some,b0,cond_false,plus,Nat.zero_add]
   obtain ⟨xt',xtl⟩:=old M.length _ x4 (ln _ (Nat.le_refl _))
   obtain ⟨xa',xal⟩:=old D _ a4 hDl
   have Rlt:=get_lt h.med
   have xt7:=g7.get (hl6.ch.old xt' (by rintro (h1 | h1);exact h1 xtl;omega))
   have xa7:=g7.get (hl6.ch.old xa' (by rintro (h1 | h1);exact h1 xal;exact hDR h1))
   have h7:=h6.grow g7
   have L7:Lm R M (M6 ++ [.live (pgR (pgS W p) s)]) lab lab':=((Lm.gr gg4).trans hlx.lm).trans (hl6.trans (.gr g7))
   have sA:=(hA.src).grow g7
   generalize M6 ++ [MObj.live (pgR (pgS W p) s)] = M7 at *
   have ls:ldSl M7 ⟨M6.length,7,none⟩ = some s:=ldSl_of x7 rfl
   have lt:=pgS_lt W p
   obtain ⟨z,z1,z2⟩:=same_is k (c:=s.cap) (c':=ca) sA (Src.of (sp:=none) xa7) (by omega) (by omega)
   have l0:ldBool M7 ⟨M6.length,0,none⟩ = some (pgS W p).tagged:=ldBool_of x7 rfl
   have ct1:ldCells M7 ⟨M6.length,1,none⟩ 5 = some (tagC (pgS W p).tag):=by rw [ldCells_of (off:=1) (n:=5) x7 (by simp [pgR])];rfl
   have ct2:ldCells M7 ⟨M.length,0,none⟩ 5 = some (tagC t):=by rw [ldCells_of (off:=0) (n:=5) xt7 (Nat.le_refl _)];rfl
   have l6':ldBool M7 ⟨M6.length,6,none⟩ = some (pgS W p).sound:=ldBool_of x7 rfl
   obtain ⟨b,bq1,bq2⟩:=tag_eq (pgS W p).tag t
   have fin:∀ e:Int,(good W p t w → e = 0) → (¬ good W p t w → e = 8) → RPr M R r lab σ n t p 174 w W (e,M7):=fun e h1 h2 =>
    ⟨lab',g',_,n + 1,h7,L7,.inr ⟨hg',.inr ⟨by rw [hwr],h1,h2,by rw [hwr],rfl⟩⟩⟩
   simp only [ls,Option.bind_some,hsl,z1,l0]
   cases ht:(pgS W p).tagged with
   | false =>
    simp only [Bool.not_false,cond_true]
    exact .some (fin 8 (fun hg => by have:=pgS_tagged hg.1;rw [ht] at this;cases this) fun _ => rfl)
   | true =>
    simp only [Bool.not_true,cond_false,ct1,Option.bind_some,ct2,bq1]
    cases b with
    | false =>
     simp only [Bool.not_false,cond_true]
     exact .some (fin 8 (fun hg => by have:=bq2.2 hg.2.1;cases this) fun _ => rfl)
    | true =>
     simp only [Bool.not_true,cond_false,l6',Option.bind_some]
     cases hsd:(pgS W p).sound with
     | false =>
      simp only [Bool.not_false,cond_true]
      exact .some (fin 8 (fun hg => by have:=hg.1;rw [hsd] at this;cases this) fun _ => rfl)
     | true =>
      have n174:=pgS_n hsd
      simp only [Bool.not_true,cond_false]
      cases z with
      | false =>
       simp only [Bool.not_false,cond_true]
       exact .some (fin 8 (fun hg => by have:=z2.2 ⟨hg.2.2.1,fun i hi => hg.2.2.2 i (by omega)⟩;cases this) fun _ => rfl)
      | true =>
       simp only [Bool.not_true,cond_false]
       exact .some (fin 0 (fun _ => rfl) fun hng => absurd ⟨hsd,bq2.1 rfl,n174,fun i hi => (z2.1 rfl).2 i (by omega)⟩ hng)
 ·have one:RPr M R r lab σ n t p nn w W (1,M2):=⟨lab,g,σ,n,h.grow g2,.gr g2,.inl ⟨hg,rfl,rfl,rfl⟩⟩
  by_cases a1:p < 0
  ·rw [decide_eq_true a1];exact .some one
  rw [decide_eq_false a1,cond_false]
  by_cases a2:p > 95
  ·rw [decide_eq_true a2];exact .some one
  rw [decide_eq_false a2,cond_false]
  by_cases a3:t.ok
  ·rw [decide_eq_true a3,Bool.not_true,cond_false]
   by_cases a4:t.place = p
   ·have b1:(t.place != p) = false:=by rw [a4];simp
    have b2:(((nn:Nat):Int) != 174) = true:=bneI_yes fun he => hg ⟨a3,a4,by omega⟩
    rw [b1,cond_false,b2];exact .some one
   ·have b1:(t.place != p) = true:=by simpa using a4
    rw [b1];exact .some one
  ·rw [decide_eq_false a3];exact .some one
end
theorem same8_is (k:Nat) (hk:1000 < k) {M:Mem} {cs1 cs2:List Value} {q:PgT} {R:RA} {L b:Nat} (hq:q.n < 1000) (h1:cs1 = pgC q R) (h2:RowLive M R q.n L (fun u => ∀ i,i < q.n → u i = q.w i)) (h3:PgR b M cs2 q) :
 ∃ M',patinaref08_Same k cs1 cs2 M = some (true,M') ∧ Gr M M':=by
 obtain ⟨s,rfl,hl,hA⟩:=h3
 subst h1
 unfold patinaref08_Same
 have L1:Nat.beq (pgC q R).length 9 = true:=rfl
 have L2:Nat.beq (pgR q s).length 9 = true:=rfl
 have g1:=Gr.app M [.live (pgC q R)]
 have g2:=g1.trans (Gr.app (M ++ [.live (pgC q R)]) [.live (pgR q s)])
 have x1:=(Gr.app (M ++ [.live (pgC q R)]) [.live (pgR q s)]).get (get_last (m:=M) (o:=.live (pgC q R)) rfl)
 have x2:((M ++ [MObj.live (pgC q R)]) ++ [MObj.live (pgR q s)])[(M ++ [MObj.live (pgC q R)]).length]? = some (.live (pgR q s)):=get_last rfl
 simp only [L1,L2,cond_true,plus,Nat.zero_add]
 generalize (M ++ [MObj.live (pgC q R)]).length = Q at *
 have s1:=(h2.src).grow g2
 have s2:=(hA.src).grow g2
 generalize (M ++ [MObj.live (pgC q R)]) ++ [MObj.live (pgR q s)] = M2 at *
 have a1:ldSl M2 ⟨M.length,7,none⟩ = some ⟨rowA R,q.n,q.n⟩:=ldSl_of x1 rfl
 have a2:ldSl M2 ⟨Q,7,none⟩ = some s:=ldSl_of x2 rfl
 obtain ⟨z,z1,z2⟩:=same_is k (c:=q.n) (c':=s.cap) s1 s2 (by omega) (by omega)
 obtain rfl:z = true:=z2.2 ⟨rfl,fun _ _ => rfl⟩
 have b1:ldBool M2 ⟨M.length,0,none⟩ = some q.tagged:=ldBool_of x1 rfl
 have b2:ldBool M2 ⟨Q,0,none⟩ = some q.tagged:=ldBool_of x2 rfl
 have c1:ldCells M2 ⟨M.length,1,none⟩ 5 = some (tagC q.tag):=by rw [ldCells_of (off:=1) (n:=5) x1 (by simp [pgC])];rfl
 have c2:ldCells M2 ⟨Q,1,none⟩ 5 = some (tagC q.tag):=by rw [ldCells_of (off:=1) (n:=5) x2 (by simp [pgR])];rfl
 have e1:ldBool M2 ⟨M.length,6,none⟩ = some q.sound:=ldBool_of x1 rfl
 have e2:ldBool M2 ⟨Q,6,none⟩ = some q.sound:=ldBool_of x2 rfl
 have f1:ldInt .i64 M2 ⟨M.length,8,none⟩ = some ((q.dmg:Nat):Int):=ldInt_of x1 rfl
 have f2:ldInt .i64 M2 ⟨Q,8,none⟩ = some ((q.dmg:Nat):Int):=ldInt_of x2 rfl
 obtain ⟨b,bq1,bq2⟩:=tag_eq q.tag q.tag
 obtain rfl:=bq2.2 rfl
 refine ⟨M2,?_,g2⟩
 simp only [a1,a2,Option.bind_some,hl,z1,cond_true,b1,b2,beq_self_eq_true,c1,c2,bq1,e1,e2,f1,f2]
end Go.Proofs.YtchonnaoojpdoaaGreat
set_option linter.unusedVariables false
set_option linter.unusedSectionVars false
set_option linter.unusedSimpArgs false
namespace Go.Proofs.YtchonnaoojpdoaaGreat
open Go.Mx
end Go.Proofs.YtchonnaoojpdoaaGreat
set_option linter.unusedVariables false
set_option linter.unusedSectionVars false
set_option linter.unusedSimpArgs false
namespace Go.Proofs.YtchonnaoojpdoaaGreat
open Go.Mx
theorem wf64 {z:Int} (h:(Lit.int .i64 z).wf = true):-9223372036854775808 ≤ z ∧ z < 9223372036854775808:=by
 have e1:IntKind.i64.min = -9223372036854775808:=rfl
 have e2:IntKind.i64.max = 9223372036854775807:=rfl
 simp only [Lit.wf,e1,e2,Bool.and_eq_true,decide_eq_true_eq] at h
 omega
theorem wf8 {z:Int} (h:(Lit.int .u8 z).wf = true):0 ≤ z ∧ z < 256:=by
 have e1:IntKind.u8.min = 0:=rfl
 have e2:IntKind.u8.max = 255:=rfl
 simp only [Lit.wf,e1,e2,Bool.and_eq_true,decide_eq_true_eq] at h
 omega
def ind8:Nat → GF:=fun j => if 50 ≤ j ∧ j < 58 then 1 else 0
theorem ind8_wt:GF.wt ind8 64 = 8:=by decide +kernel
theorem mrk_ff:(List.range 8).all (fun i => mrk i != GF.of 255) = true:=by decide +kernel
theorem marked_far {u:Nat → GF} (h:marked u):8 ≤ GF.df u fun _ => GF.of 255:=by
 rw [← ind8_wt]
 refine GF.wt_le fun i hi h0 => ?_
 unfold ind8
 split
 ·rename_i hr
  exfalso
  have h1:=h (i - 50) (by omega)
  rw [show 50 + (i - 50) = i by omega] at h1
  have h2:=List.all_eq_true.1 mrk_ff (i - 50) (List.mem_range.2 (by omega))
  rw [h1] at h0
  rw [GF.add_eq_zero.1 h0] at h2
  simp at h2
 ·rfl
theorem blank_not {y:Nat → GF} (hy:GF.df y (fun _ => GF.of 255) ≤ 4) {u:Nat → GF} {n:Nat} (hd:GF.dec y = some (u,n)):¬ marked u:=by
 intro hm
 have h8:=marked_far hm
 rcases GF.dec_spec y with ⟨c,n',q1,_,q3,q4⟩ | ⟨q1,_⟩
 ·rw [q1] at hd
  simp only [Option.some.injEq,Prod.mk.injEq] at hd
  obtain ⟨rfl,rfl⟩:=hd
  have:=GF.df_tri c y (fun _ => GF.of 255)
  have hc:=GF.df_comm c y
  omega
 ·rw [q1] at hd;cases hd
end Go.Proofs.YtchonnaoojpdoaaGreat
set_option linter.unusedVariables false
set_option linter.unusedSectionVars false
set_option linter.unusedSimpArgs false
namespace Go.Proofs.YtchonnaoojpdoaaGreat
open Go.Mx
theorem mdec_le {y c:Nat → GF} (hc:GF.Code c) (h:GF.df y c ≤ 2):∃ v,GF.dec y = some (v,GF.df y c) ∧ ∀ i,i < 64 → v i = c i:=GF.dec_of hc rfl h
theorem mdec_34 {y c:Nat → GF} (hc:GF.Code c) (h:2 < GF.df y c) (h4:GF.df y c ≤ 4):GF.dec y = none:=by
 rcases GF.dec_spec y with ⟨u,n,q1,q2,q3,q4⟩ | ⟨q1,_⟩
 ·exfalso
  have htri:=GF.df_tri u y c
  have hcm:=GF.df_comm u y
  have hu:=q2.near hc (by omega)
  have:GF.df y u = GF.df y c:=GF.wt_congr fun i hi => by rw [hu i hi]
  omega
 ·exact q1
theorem cws_code (t:TagT) (w:Nat → GF) (j:Nat):GF.Code (cws t w j):=GF.cw_code gC_gen _
theorem cws_msg (t:TagT) (w:Nat → GF) (j i:Nat) (hi:i < 58):cws t w j i = msgs w (tagW t) j i:=by unfold cws GF.cw;rw [if_pos hi]
noncomputable def far (W:Nat → GF) (t:TagT) (w:Nat → GF) (j:Nat):Nat:=GF.df (wd W j) (cws t w j)
section
variable {W:Nat → GF} {t:TagT} {w:Nat → GF}
theorem msgS_near {j:Nat} (hj:j < 4) (h:far W t w j ≤ 2):(msgS 256 W (j:Int)).e = 0 ∧ (msgS 256 W (j:Int)).a = far W t w j:=by
 obtain ⟨v,h1,h2⟩:=mdec_le (cws_code t w j) h
 unfold msgS
 rw [if_pos ⟨rfl,by omega,by omega⟩,Int.toNat_natCast,h1]
 exact ⟨rfl,rfl⟩
theorem mxm_all (h:∀ j,j < 4 → far W t w j ≤ 2):∀ k,k ≤ 4 → mxm W k = mxN (far W t w) k
 | 0,_ => rfl
 | k + 1,hk => by
  have ih:=mxm_all h k (by omega)
  obtain ⟨h1,h2⟩:=msgS_near (j:=k) (by omega) (h k (by omega))
  show (if (msgS 256 W (k:Int)).e = 0 then max (mxm W k) (msgS 256 W (k:Int)).a else mxm W k) = _
  rw [if_pos h1,h2,ih];rfl
theorem bodyS_near (h:far W t w 3 ≤ 2):(bodyS 256 W).e = 0 ∧ ∀ i,i < 50 → (bodyS 256 W).w i = tagW t i:=by
 obtain ⟨v,h1,h2⟩:=mdec_le (cws_code t w 3) h
 have hm:∀ i,i < 58 → v i = sealed (tagW t) i:=fun i hi => by
  rw [h2 i (by omega),cws_msg t w 3 i hi]
  show whole w (tagW t) (3 * 58 + i) = _
  unfold whole
  rw [if_neg (show ¬ 3 * 58 + i < 174 by omega),show 3 * 58 + i - 174 = i by omega]
 have hmk:marked v:=fun i hi => by
  rw [hm (50 + i) (by omega)]
  unfold sealed
  rw [if_neg (show ¬ 50 + i < 50 by omega),show 50 + i - 50 = i by omega]
 unfold bodyS
 rw [if_pos rfl,h1]
 simp only [if_pos hmk]
 refine ⟨trivial,fun i hi => ?_⟩
 rw [hm i (by omega)]
 unfold sealed
 rw [if_pos hi]
theorem bodyS_far (h:2 < far W t w 3) (h4:far W t w 3 ≤ 4):(bodyS 256 W).e ≠ 0:=by
 unfold bodyS
 rw [if_pos rfl,mdec_34 (cws_code t w 3) h h4]
 simp [Told.no]
theorem dataS_near (h0:far W t w 0 ≤ 2) (h1:far W t w 1 ≤ 2) (h2:far W t w 2 ≤ 2):(dataS 256 W).e = 0 ∧ (dataS 256 W).n = 174 ∧ ∀ i,i < 174 → (dataS 256 W).w i = w i:=by
 have key:∀ j,j < 3 → dIs W j ∧ ∀ i,i < 58 → dW W j i = msgs w (tagW t) j i:=fun j hj => by
  have hf:far W t w j ≤ 2:=by
   have:j = 0 ∨ j = 1 ∨ j = 2:=by omega
   rcases this with rfl | rfl | rfl <;> assumption
  obtain ⟨v,a1,a2⟩:=mdec_le (cws_code t w j) hf
  unfold dIs dW
  rw [a1]
  refine ⟨by simp,fun i hi => ?_⟩
  show v i = _
  rw [a2 i (by omega),cws_msg t w j i hi]
 unfold dataS
 rw [if_pos rfl,if_pos ⟨(key 0 (by omega)).1,(key 1 (by omega)).1,(key 2 (by omega)).1⟩]
 refine ⟨rfl,rfl,fun i hi => ?_⟩
 show dW W (i / 58) (i % 58) = _
 rw [(key (i / 58) (by omega)).2 (i % 58) (by omega)]
 show whole w (tagW t) (i / 58 * 58 + i % 58) = _
 rw [show i / 58 * 58 + i % 58 = i by omega]
 unfold whole
 rw [if_pos hi]
theorem dataS_far {j:Nat} (hj:j < 3) (h:2 < far W t w j) (h4:far W t w j ≤ 4):(dataS 256 W).e ≠ 0:=by
 have hn:=mdec_34 (cws_code t w j) h h4
 unfold dataS
 rw [if_pos rfl,if_neg]
 ·simp [Told.no]
 ·rintro ⟨a,b,c⟩
  have:j = 0 ∨ j = 1 ∨ j = 2:=by omega
  rcases this with rfl | rfl | rfl
  ·exact a hn
  ·exact b hn
  ·exact c hn
theorem pgS_near (hok:t.ok) (h4:∀ j,j < 4 → far W t w j ≤ 4):(pgS W t.place).dmg = mxm W 4 ∧ ((pgS W t.place).tagged = true ↔ far W t w 3 ≤ 2) ∧ ((pgS W t.place).tagged = true → (pgS W t.place).tag = t) ∧
 ((pgS W t.place).sound = true ↔ far W t w 3 ≤ 2 ∧ far W t w 0 ≤ 2 ∧ far W t w 1 ≤ 2 ∧ far W t w 2 ≤ 2) ∧ ((pgS W t.place).sound = true → (pgS W t.place).n = 174 ∧ ∀ i,i < 174 → (pgS W t.place).w i = w i) ∧ ((pgS W t.place).sound = false → (pgS W t.place).n = 0):=by
 by_cases h3:far W t w 3 ≤ 2
 ·obtain ⟨e1,e2⟩:=bodyS_near h3
  have e3:=tagD_self hok e2
  by_cases hd:far W t w 0 ≤ 2 ∧ far W t w 1 ≤ 2 ∧ far W t w 2 ≤ 2
  ·obtain ⟨d1,d2,d3⟩:=dataS_near hd.1 hd.2.1 hd.2.2
   have e:pgS W t.place = ⟨true,t,true,(dataS 256 W).n,(dataS 256 W).w,mxm W 4⟩:=by
    unfold pgS
    rw [if_pos e1,e3]
    simp only [if_true,if_pos d1]
   rw [e]
   exact ⟨rfl,⟨fun _ => h3,fun _ => rfl⟩,fun _ => rfl,⟨fun _ => ⟨h3,hd⟩,fun _ => rfl⟩,fun _ => ⟨d2,d3⟩,(fun h => nomatch h)⟩
  ·have d1:(dataS 256 W).e ≠ 0:=by
    by_cases a0:far W t w 0 ≤ 2
    ·by_cases a1:far W t w 1 ≤ 2
     ·by_cases a2:far W t w 2 ≤ 2
      ·exact absurd ⟨a0,a1,a2⟩ hd
      ·exact dataS_far (j:=2) (by omega) (by omega) (h4 2 (by omega))
     ·exact dataS_far (j:=1) (by omega) (by omega) (h4 1 (by omega))
    ·exact dataS_far (j:=0) (by omega) (by omega) (h4 0 (by omega))
   have e:pgS W t.place = ⟨true,t,false,0,fun _ => 0,mxm W 4⟩:=by
    unfold pgS
    rw [if_pos e1,e3]
    simp only [if_true,if_neg d1]
   rw [e]
   exact ⟨rfl,⟨fun _ => h3,fun _ => rfl⟩,fun _ => rfl,⟨(fun h => nomatch h),fun h => absurd h.2 hd⟩,(fun h => nomatch h),fun _ => rfl⟩
 ·have e1:=bodyS_far (by omega) (h4 3 (by omega))
  have e:pgS W t.place = .no (mxm W 4):=by unfold pgS;rw [if_neg e1]
  rw [e]
  exact ⟨rfl,⟨(fun h => nomatch h),fun h => absurd h h3⟩,(fun h => nomatch h),⟨(fun h => nomatch h),fun h => absurd h.1 h3⟩,(fun h => nomatch h),fun _ => rfl⟩
theorem pgS_blank {p:Int} (h:GF.df (wd W 3) (fun _ => GF.of 255) ≤ 4):pgS W p = .no (mxm W 4):=by
 unfold pgS
 rw [if_neg]
 unfold bodyS
 rw [if_pos rfl]
 split
 ·rename_i u a hd
  rw [if_neg (blank_not h hd)]
  simp [Told.no]
 ·simp [Told.no]
end
theorem put_at' (σ:ChipS) {p k p' k':Int} (c:ChunkS) (h0:0 ≤ p) (h0':0 ≤ p') (hk:0 ≤ k ∧ k < 4) (hk':0 ≤ k' ∧ k' < 4):(σ.put p k c).at_ p' k' = if p' = p ∧ k' = k then c else σ.at_ p' k':=by
 show (upd σ.b (p / 8) ((σ.b (p / 8)).updC (p % 8 * 4 + k) c) (p' / 8)).ch (p' % 8 * 4 + k') = _
 unfold upd
 by_cases h1:p' / 8 = p / 8
 ·rw [if_pos h1]
  show upd (σ.b (p / 8)).ch (p % 8 * 4 + k) c (p' % 8 * 4 + k') = _
  unfold upd
  by_cases h2:p' % 8 * 4 + k' = p % 8 * 4 + k
  ·rw [if_pos h2,if_pos (by omega)]
  ·rw [if_neg h2,if_neg (by omega)]
   show _ = (σ.b (p' / 8)).ch _
   rw [h1]
 ·rw [if_neg h1,if_neg (by rintro ⟨rfl,_⟩;exact h1 rfl)];rfl
structure Pg (σ:ChipS) (p:Int) (cw:Nat → Nat → GF) (j:Nat):Prop where
 bf:∀ x,(σ.b x).before = 0 ∧ (σ.b x).failed = false
 done:∀ q:Nat,q < j → σ.at_ p q = ⟨byI (cw q),byI (cw q),true,0⟩
 todo:∀ q:Nat,j ≤ q → q < 4 → σ.at_ p q = blank
 rest:∀ p' q:Int,0 ≤ p' → p' ≠ p → 0 ≤ q → q < 4 → σ.at_ p' q = blank
theorem Pg.congr {σ σ':ChipS} {p:Int} {cw:Nat → Nat → GF} {j:Nat} (h:Pg σ p cw j) (hb:σ'.b = σ.b):Pg σ' p cw j:=by
 have ha:∀ p q,σ'.at_ p q = σ.at_ p q:=fun p q => by unfold ChipS.at_;rw [hb]
 exact ⟨by rw [hb];exact h.bf,fun q hq => by rw [ha];exact h.done q hq,fun q h1 h2 => by rw [ha];exact h.todo q h1 h2,fun p' q h1 h2 h3 h4 => by rw [ha];exact h.rest p' q h1 h2 h3 h4⟩
theorem Pg.fresh (p:Int) (cw:Nat → Nat → GF):Pg fresh p cw 0:=⟨fun _ => ⟨rfl,rfl⟩,fun q h => by omega,fun _ _ _ => rfl,fun _ _ _ _ _ _ => rfl⟩
theorem Pg.write {σ:ChipS} {p:Int} {cw:Nat → Nat → GF} {j:Nat} (h:Pg σ p cw j) (hp:0 ≤ p ∧ p < 96) (hj:j < 4) (ho:σ.off = false) :
 (σ.step.1 = 0 → (σ.write p j 64 (byI (cw j))).1 = 0 ∧ (σ.write p j 64 (byI (cw j))).2 = σ.step.2.put p j ⟨byI (cw j),byI (cw j),true,0⟩ ∧ Pg (σ.write p j 64 (byI (cw j))).2 p cw (j + 1)) ∧ (σ.step.1 ≠ 0 → σ.write p j 64 (byI (cw j)) = σ.step):=by
 have e:=write_plain (σ:=σ) (p:=p) (q:=j) (f:=byI (cw j)) ⟨hp.1,hp.2,by omega,by omega⟩ (h.bf _).1 (h.bf _).2
 have his:(σ.at_ p j).is = false:=by rw [h.todo j (Nat.le_refl _) hj];rfl
 rw [if_neg (by rw [ho];simp),if_neg (by rw [his];simp)] at e
 constructor
 ·intro hs
  rw [if_neg (not_not_intro hs)] at e
  rw [e]
  refine ⟨rfl,rfl,⟨fun x => ?_,fun q hq => ?_,fun q h1 h2 => ?_,fun p' q h1 h2 h3 h4 => ?_⟩⟩
  ·show ((upd σ.step.2.b (p / 8) ((σ.step.2.b (p / 8)).updC _ _)) x).before = 0 ∧ ((upd σ.step.2.b (p / 8) ((σ.step.2.b (p / 8)).updC _ _)) x).failed = false
   rw [step_b]
   unfold upd
   split
   ·exact h.bf (p / 8)
   ·exact h.bf x
  ·rw [put_at' _ _ hp.1 hp.1 ⟨by omega,by omega⟩ ⟨by omega,by omega⟩]
   by_cases hqj:q = j
   ·subst hqj;rw [if_pos ⟨rfl,rfl⟩]
   ·rw [if_neg (fun hh => hqj (by have:=hh.2;omega))]
    have:=h.done q (by omega)
    unfold ChipS.at_ at *;rw [step_b];exact this
  ·rw [put_at' _ _ hp.1 hp.1 ⟨by omega,by omega⟩ ⟨by omega,by omega⟩,if_neg (fun hh => by have:=hh.2;omega)]
   have:=h.todo q (by omega) h2
   unfold ChipS.at_ at *;rw [step_b];exact this
  ·rw [put_at' _ _ hp.1 h1 ⟨by omega,by omega⟩ ⟨h3,h4⟩,if_neg (fun hh => h2 hh.1)]
   have:=h.rest p' q h1 h2 h3 h4
   unfold ChipS.at_ at *;rw [step_b];exact this
 ·intro hs
  rw [if_pos hs] at e
  exact e
theorem Pg.whole {p:Int} {cw:Nat → Nat → GF} (hp:0 ≤ p ∧ p < 96):∀ (d j:Nat) (σ:ChipS),j + d = 4 → Pg σ p cw j → σ.off = false → (σ.cut = true → 0 ≤ σ.budget) →
 (((σ.cut = true → d ≤ σ.budget) → (wrN p cw d j σ).1 = 0 ∧ Pg (wrN p cw d j σ).2 p cw 4 ∧ (wrN p cw d j σ).2.off = false) ∧
   (σ.cut = true ∧ σ.budget < d → (wrN p cw d j σ).1 = 7 ∧ Pg (wrN p cw d j σ).2 p cw (j + σ.budget.toNat)))
 | 0,j,σ,hj,h,ho,hb => by
  obtain rfl:j = 4:=by omega
  exact ⟨fun _ => ⟨rfl,h,ho⟩,fun hh => by have:=hb hh.1;have:=hh.2;omega⟩
 | d + 1,j,σ,hj,h,ho,hb => by
  obtain ⟨w1,w2⟩:=h.write hp (by omega) ho
  have hwr:wrN p cw (d + 1) j σ = if (σ.write p j 64 (byI (cw j))).1 = 0 then wrN p cw d (j + 1) (σ.write p j 64 (byI (cw j))).2 else σ.write p j 64 (byI (cw j)):=rfl
  by_cases hs:σ.step.1 = 0
  ·obtain ⟨a1,a2,a3⟩:=w1 hs
   rw [if_pos a1] at hwr
   have co:(σ.write p j 64 (byI (cw j))).2.off = false:=write_on a1
   have ct:(σ.write p j 64 (byI (cw j))).2.cut = σ.cut:=by
    rw [a2];show σ.step.2.cut = _
    unfold ChipS.step;split <;> (try split) <;> rfl
   have cb:σ.cut = true → (σ.write p j 64 (byI (cw j))).2.budget = σ.budget - 1 ∧ 0 < σ.budget:=fun hc => by
    rw [a2];show σ.step.2.budget = _ ∧ _
    unfold ChipS.step at hs ⊢
    rw [if_pos hc] at hs ⊢
    by_cases hz:σ.budget = 0
    ·rw [if_pos hz] at hs;cases hs
    ·rw [if_neg hz];have:=hb hc;exact ⟨rfl,by omega⟩
   obtain ⟨i1,i2⟩:=Pg.whole hp d (j + 1) _ (by omega) a3 co (fun hc => by rw [ct] at hc;have:=cb hc;omega)
   rw [hwr]
   refine ⟨fun hh => i1 fun hc => by rw [ct] at hc;have:=cb hc;have:=hh hc;omega,fun hh => ?_⟩
   have c1:=cb hh.1
   obtain ⟨y1,y2⟩:=i2 ⟨by rw [ct];exact hh.1,by have:=hh.2;omega⟩
   refine ⟨y1,?_⟩
   rw [c1.1,show j + 1 + (σ.budget - 1).toNat = j + σ.budget.toNat by omega] at y2
   exact y2
  ·have e:=w2 hs
   rw [e,if_neg hs] at hwr
   rw [hwr]
   have hc:σ.cut = true ∧ σ.budget = 0:=by
    unfold ChipS.step at hs
    split at hs
    ·rename_i hc
     split at hs
     ·rename_i hz;exact ⟨hc,hz⟩
     ·exact absurd rfl hs
    ·exact absurd rfl hs
   have es:σ.step = (7,{ σ with off:=true }):=by unfold ChipS.step;rw [if_pos hc.1,if_pos hc.2]
   refine ⟨fun hh => ?_,fun hh => ?_⟩
   ·have:=hh hc.1;rw [hc.2] at this;omega
   ·rw [es,hc.2]
    exact ⟨rfl,h.congr rfl⟩
theorem mflip_at (σ:ChipS) (p b q:Int):(σ.flip p b).at_ p q = if q = b / 512 then (σ.at_ p (b / 512)).mark (flipC (σ.at_ p (b / 512)) (b / 8 % 64) (b % 8)) else σ.at_ p q:=by
 show (upd σ.b (p / 8) _ (p / 8)).ch (p % 8 * 4 + q) = _
 rw [upd_same]
 show upd (σ.b (p / 8)).ch (p % 8 * 4 + b / 512) _ (p % 8 * 4 + q) = _
 unfold upd
 by_cases h:q = b / 512
 ·rw [if_pos (by omega),if_pos h]
 ·rw [if_neg (by omega),if_neg h];rfl
end Go.Proofs.YtchonnaoojpdoaaGreat
set_option linter.unusedVariables false
set_option linter.unusedSectionVars false
set_option linter.unusedSimpArgs false
namespace Go.Proofs.YtchonnaoojpdoaaGreat
open Go.Mx
def bcell (c mm R:Nat):List Value:=[.pointer (some ⟨c,0,none⟩),.pointer (some ⟨mm,0,none⟩),.pointer (some ⟨R,0,none⟩)]
structure BI (m0 M:Mem) (b c mm f R r:Nat) (lab:Nat → Option Lab) (g:RG) (σ ρ:ChipS) (n ν:Int):Prop where
 base:Cm c mm m0 M
 i0:MI m0 mm c f fresh 0
 chip:M[c]? = some (.live (chipC σ))
 med:M[mm]? = some (.live (medC c f n))
 ri:RI M R r lab g ρ ν
 bc:M[b]? = some (.live (bcell c mm R))
 lo:∀ p,lab p ≠ none → m0.length ≤ p
 lR:m0.length ≤ R
 lb:m0.length ≤ b
 bl:lab b = none
 bR:b ≠ R
def Loc (m0:Mem) (R:Nat) (lab:Nat → Option Lab) (q:Nat):Prop:=m0.length ≤ q ∧ lab q = none ∧ q ≠ R
section
variable {m0 M M':Mem} {b c mm f R r:Nat} {lab lab':Nat → Option Lab} {g g':RG} {σ σ' ρ ρ':ChipS} {n n' ν ν':Int}
theorem BI.mi (h:BI m0 M b c mm f R r lab g σ ρ n ν):MI M mm c f σ n:=h.i0.step h.base h.chip h.med
theorem BI.cl (h:BI m0 M b c mm f R r lab g σ ρ n ν):c < m0.length:=get_lt h.i0.chip
theorem BI.ml (h:BI m0 M b c mm f R r lab g σ ρ n ν):mm < m0.length:=get_lt h.i0.med
theorem BI.main (h:BI m0 M b c mm f R r lab g σ ρ n ν) (hc:Cm c mm M M') (h1:M'[c]? = some (.live (chipC σ'))) (h2:M'[mm]? = some (.live (medC c f n'))):BI m0 M' b c mm f R r lab g σ' ρ n' ν:=by
 have hcl:=h.cl
 have hml:=h.ml
 have lR:=h.lR
 have lb:=h.lb
 have keep:∀ q,q < M.length → m0.length ≤ q → M'[q]? = M[q]?:=fun q h1 h2 => hc.get q h1 (by rintro (h | h) <;> omega)
 refine ⟨h.base.trans hc,h.i0,h1,h2,h.ri.keep hc.len fun p hp => ?_,?_,h.lo,h.lR,h.lb,h.bl,h.bR⟩
 ·rcases hp with hp | rfl
  ·exact keep p (h.ri.ref.lt p hp) (h.lo p hp)
  ·exact keep p (get_lt h.ri.med) lR
 ·rw [keep b (get_lt h.bc) lb];exact h.bc
theorem BI.ref (h:BI m0 M b c mm f R r lab g σ ρ n ν) (hl:Lm R M M' lab lab') (h1:RI M' R r lab' g' ρ' ν'):BI m0 M' b c mm f R r lab' g' σ ρ' n ν':=by
 have hcl:=h.cl
 have hml:=h.ml
 have lR:=h.lR
 have lb:=h.lb
 have low:∀ p,p < m0.length → lab p = none:=fun p hp => by
  cases hc:lab p with
  | none => rfl
  | some x => have:=h.lo p (by rw [hc];simp);omega
 have hbl:=h.base.len
 have keep:∀ p,p < m0.length → M'[p]? = M[p]?:=fun p hp => hl.ch.get p (by omega) (by rintro (h | h);exact h (low p hp);omega)
 have nw:∀ p,lab' p ≠ none → m0.length ≤ p:=fun p hp => by
  rcases hl.new p hp with h1 | h1
  ·exact h.lo p h1
  ·omega
 refine ⟨⟨by have:=hl.ch.len;omega,fun p hp hn => by rw [keep p hp];exact h.base.get p hp hn⟩,h.i0,by rw [keep c hcl];exact h.chip,by rw [keep mm hml];exact h.med,h1,?_,nw,h.lR,h.lb,?_,h.bR⟩
 ·exact hl.ch.old h.bc (by rintro (h1 | h1);exact h1 h.bl;exact h.bR h1)
 ·cases hc:lab' b with
  | none => rfl
  | some x =>
   rcases hl.new b (by rw [hc];simp) with h1 | h1
   ·exact absurd h.bl h1
   ·have:=get_lt h.bc;omega
theorem BI.grow (h:BI m0 M b c mm f R r lab g σ ρ n ν) (hg:Gr M M'):BI m0 M' b c mm f R r lab g σ ρ n ν:=h.main hg.cm (hg.get h.chip) (hg.get h.med)
theorem BI.any (h:BI m0 M b c mm f R r lab g σ ρ n ν) (hl:M.length ≤ M'.length) (hk:∀ p,p < m0.length ∨ lab p ≠ none ∨ p = R ∨ p = b → M'[p]? = M[p]?):BI m0 M' b c mm f R r lab g σ ρ n ν :=
 ⟨⟨by have:=h.base.len;omega,fun p hp hn => by rw [hk p (.inl hp)];exact h.base.get p hp hn⟩,h.i0,by rw [hk c (.inl h.cl)];exact h.chip,by rw [hk mm (.inl h.ml)];exact h.med,
  h.ri.keep hl fun p hp => hk p (by rcases hp with h | h;exact .inr (.inl h);exact .inr (.inr (.inl h))),by rw [hk b (.inr (.inr (.inr rfl)))];exact h.bc,h.lo,h.lR,h.lb,h.bl,h.bR⟩
theorem BI.loc (h:BI m0 M b c mm f R r lab g σ ρ n ν) {q:Nat} (hq:M.length ≤ q):Loc m0 R lab q:=by
 refine ⟨by have:=h.base.len;omega,?_,by have:=get_lt h.ri.med;omega⟩
 cases hc:lab q with
 | none => rfl
 | some x => have:=h.ri.ref.lt q (by rw [hc];simp);omega
theorem Loc.main_get {q:Nat} {o:MObj} (h:Loc m0 R lab q) (hB:BI m0 M b c mm f R r lab g σ ρ n ν) (hc:Cm c mm M M') (ho:M[q]? = some o):M'[q]? = some o:=by
 have:=hB.cl;have:=hB.ml;have:=h.1
 exact hc.old ho (by rintro (h | h) <;> omega)
theorem Loc.ref_get {q:Nat} {o:MObj} (h:Loc m0 R lab q) (hl:Lm R M M' lab lab') (ho:M[q]? = some o):M'[q]? = some o :=
 hl.ch.old ho (by rintro (h1 | h1);exact h1 h.2.1;exact h.2.2 h1)
theorem BI.ld0 (h:BI m0 M b c mm f R r lab g σ ρ n ν):ldPtr M ⟨b,0,none⟩ = some (some ⟨c,0,none⟩):=ldPtr_of h.bc rfl
theorem BI.ld1 (h:BI m0 M b c mm f R r lab g σ ρ n ν):ldPtr M ⟨b,1,none⟩ = some (some ⟨mm,0,none⟩):=ldPtr_of h.bc rfl
theorem BI.ld2 (h:BI m0 M b c mm f R r lab g σ ρ n ν):ldPtr M ⟨b,2,none⟩ = some (some ⟨R,0,none⟩):=ldPtr_of h.bc rfl
theorem BI.ldr (h:BI m0 M b c mm f R r lab g σ ρ n ν):ldPtr M ⟨R,0,none⟩ = some (some ⟨r,0,none⟩):=ldPtr_of h.ri.med rfl
theorem BI.ldn (h:BI m0 M b c mm f R r lab g σ ρ n ν):ldInt .i64 M ⟨R,1,none⟩ = some ν:=ldInt_of h.ri.med rfl
theorem BI.wrc (h:BI m0 M b c mm f R r lab g σ ρ n ν) (σ':ChipS):BI m0 (wr M c (chipC σ')) b c mm f R r lab g σ' ρ n ν ∧ Cm c mm M (wr M c (chipC σ')):=by
 have hc:Cm c mm M (wr M c (chipC σ')):=(Ch.refl _ _).wr (.inl (.inl rfl)) _
 exact ⟨h.main hc (wr_get h.chip) (by rw [wr_ne (Ne.symm h.mi.ne)];exact h.med),hc⟩
end
theorem readBoth (k:Nat) (hk:1000 < k) {M:Mem} {mm c f N:Nat} {σ:ChipS} {n:Int} (h:MI M mm c f σ n) (hw:Wf N σ) (hN:N < 400000000000000) (hn:0 ≤ n ∧ n < 4611686018427387904) (p:Int) :
 Ok (media_Media_Read k (some ⟨mm,0,none⟩) p M) fun x => ∃ (q:PgT) (RR:RA) (L:Nat) (e:Int) (σ':ChipS) (n':Int) (W:Nat → GF),x.1 = pgC q RR ∧ x.2.1 = errC e ∧ (0 ≤ e ∧ e < 20) ∧ q.n < 1000 ∧ RowLive x.2.2 RR q.n L (fun u => ∀ i,i < q.n → u i = q.w i) ∧
  (∀ D,rowD RR = some D → M.length ≤ D) ∧ Cm c mm M x.2.2 ∧ x.2.2[c]? = some (.live (chipC σ')) ∧ x.2.2[mm]? = some (.live (medC c f n')) ∧ Wf (N + 1) σ' ∧ (n' = n ∨ n' = n + 1) ∧
  (0 ≤ p ∧ p < 96 → σ.off = false → ∀ (q i:Nat),q < 4 → i < 64 → (σ.at_ p q).now i = ((W (q * 64 + i)).v:Int)) ∧
  ∀ (M3:Mem) (R r:Nat) (lab:Nat → Option Lab) (g:RG) (y:List Value × Int × Mem),RRd M3 R r lab g σ n p W y → PgR M3.length y.2.2 y.1 q ∧ y.2.1 = e ∧ RI y.2.2 R r lab g σ' n' ∧ Lm R M3 y.2.2 lab lab:=by
 by_cases hp:(0 ≤ p ∧ p < 96) ∧ σ.off = false
 ·obtain ⟨hp,ho⟩:=hp
  refine (mediaRead_ok k hk h hw hN hn p hp ho).mono ?_
  rintro ⟨pc,ev,M2⟩ ⟨W,RR,L,hW,rfl,rfl,hR,hR2,cm2,hc2,hm2⟩
  refine ⟨pgS W p,RR,L,0,σ.readd p,n + 1,W,rfl,rfl,⟨by omega,by omega⟩,pgS_lt W p,hR,hR2,cm2,hc2,hm2,hw.readd p,.inr rfl,fun _ _ => hW,fun M3 R r lab g y hy => ?_⟩
  obtain ⟨hl,⟨hbad,_⟩ | ⟨_,_,h1,h2,h3⟩⟩:=hy
  ·rcases hbad with h1 | h1
   ·exact absurd hp h1
   ·rw [ho] at h1;cases h1
  ·exact ⟨h1,h2,h3,hl⟩
 ·have hbad:¬ (0 ≤ p ∧ p < 96) ∨ σ.off = true:=by
   by_cases h1:0 ≤ p ∧ p < 96
   ·right
    cases ho:σ.off with
    | true => rfl
    | false => exact absurd ⟨h1,ho⟩ hp
   ·exact .inl h1
  refine (mediaRead_no k hk h hw hN p hbad).mono ?_
  rintro ⟨pc,ev,M2⟩ ⟨rfl,rfl,cm2,hc2,hm2⟩
  refine ⟨.no 0,none,0,(if 0 ≤ p ∧ p < 96 then 7 else 1),σ,n,fun _ => 0,rfl,rfl,by split <;> omega,by simp [PgT.no],rfl,(fun D h => nomatch h),cm2,hc2,hm2,hw.mono (by omega),.inl rfl,fun h1 h2 => absurd ⟨h1,h2⟩ hp,fun M3 R r lab g y hy => ?_⟩
  obtain ⟨hl,⟨_,h1,h2,h3⟩ | ⟨h1,h2,_⟩⟩:=hy
  ·exact ⟨h1,h2,h3,hl⟩
  ·exact absurd ⟨h1,h2⟩ hp
theorem wrN_wf8 {p:Int} {cw:Nat → Nat → GF}:∀ (d j:Nat) (N:Nat) (σ:ChipS),Wf N σ → Wf (N + d) (wrN p cw d j σ).2:=by
 intro d
 induction d with
 | zero => intro j N σ h;exact h
 | succ d ih =>
  intro j N σ h
  show Wf _ (if _ then _ else _:Int × ChipS).2
  have hw:=h.write p j 64 (cw j)
  split
  ·exact (ih (j + 1) (N + 1) _ hw).mono (by omega)
  ·exact hw.mono (by omega)
theorem wrN_code {p:Int} {cw:Nat → Nat → GF}:∀ (d j:Nat) (σ:ChipS),0 ≤ (wrN p cw d j σ).1 ∧ (wrN p cw d j σ).1 < 20:=by
 intro d
 induction d with
 | zero => intro j σ;exact ⟨by show (0:Int) ≤ 0;omega,by show (0:Int) < 20;omega⟩
 | succ d ih =>
  intro j σ
  show 0 ≤ (if _ then _ else _:Int × ChipS).1 ∧ (if _ then _ else _:Int × ChipS).1 < 20
  split
  ·exact ih _ _
  ·exact write_code σ p j 64 _
open Classical in
theorem progBoth {M:Mem} {mm c f N:Nat} {σ:ChipS} {n:Int} {t:TagT} {p:Int} {nn:Nat} {w:Nat → GF} {x:Value × Mem} (hw:Wf N σ) (h:Prd M mm c f σ n t p nn w x) :
 ∃ (e:Int) (σ':ChipS) (n':Int) (W:Nat → GF),x.1 = errC e ∧ (0 ≤ e ∧ e < 20) ∧ Cm c mm M x.2 ∧ x.2[c]? = some (.live (chipC σ')) ∧ x.2[mm]? = some (.live (medC c f n')) ∧ Wf (N + 5) σ' ∧ (n' = n ∨ n' = n + 1) ∧
  ((wrN p (cws t w) 4 0 σ).1 = 0 → ∀ (q i:Nat),q < 4 → i < 64 → ((wrN p (cws t w) 4 0 σ).2.at_ p q).now i = ((W (q * 64 + i)).v:Int)) ∧
  ∀ (M3:Mem) (R r:Nat) (lab:Nat → Option Lab) (y:Int × Mem),RPr M3 R r lab σ n t p nn w W y → ∃ lab' g',RI y.2 R r lab' g' σ' n' ∧ Lm R M3 y.2 lab lab' ∧ y.1 = e:=by
 have hw4:=wrN_wf8 (p:=p) (cw:=cws t w) 4 0 N σ hw
 obtain ⟨cm,⟨h1,h2,h3,h4⟩ | ⟨h1,h2,h3,⟨h4,h5,h6,h7⟩ | ⟨h4,W,h5,h6,h7,h8,h9⟩⟩⟩:=h
 ·obtain ⟨W,hW,_⟩:=hw4.page p
  refine ⟨1,σ,n,W,h2,⟨by omega,by omega⟩,cm,h3,h4,hw.mono (by omega),.inl rfl,fun _ => hW,fun M3 R r lab y hy => ?_⟩
  obtain ⟨lab',g',σ',n',a1,a2,⟨b1,b2,rfl,rfl⟩ | ⟨b1,_⟩⟩:=hy
  ·exact ⟨lab',g',a1,a2,b2⟩
  ·exact absurd b1 h1
 ·obtain ⟨W,hW,_⟩:=hw4.page p
  refine ⟨_,_,n,W,h5,wrN_code _ _ _,cm,h6,h7,hw4.mono (by omega),.inl rfl,fun _ => hW,fun M3 R r lab y hy => ?_⟩
  obtain ⟨lab',g',σ',n',a1,a2,⟨b1,_⟩ | ⟨b1,⟨b2,b3,rfl,rfl⟩ | ⟨b2,_⟩⟩⟩:=hy
  ·exact absurd ⟨h1,h2,h3⟩ b1
  ·exact ⟨lab',g',a1,a2,b3⟩
  ·exact absurd b2 h4
 ·refine ⟨if good W p t w then 0 else 8,_,n + 1,W,?_,by split <;> omega,cm,h8,h9,(hw4.readd p).mono (by omega),.inr rfl,fun _ => h5,fun M3 R r lab y hy => ?_⟩
  ·split
   ·rename_i hg;exact h6 hg
   ·rename_i hg;exact h7 hg
  ·obtain ⟨lab',g',σ',n',a1,a2,⟨b1,_⟩ | ⟨b1,⟨b2,_⟩ | ⟨b2,b3,b4,rfl,rfl⟩⟩⟩:=hy
   ·exact absurd ⟨h1,h2,h3⟩ b1
   ·exact absurd h4 b2
   ·refine ⟨lab',g',a1,a2,?_⟩
    split
    ·rename_i hg;exact b3 hg
    ·rename_i hg;exact b4 hg
end Go.Proofs.YtchonnaoojpdoaaGreat
