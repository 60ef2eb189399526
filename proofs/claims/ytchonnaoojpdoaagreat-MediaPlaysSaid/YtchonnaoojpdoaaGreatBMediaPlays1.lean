import Derived.KernelRfl
import Derived.Test.YtchonnaoojpdoaaGreatMxFlat
import Derived.Test.YtchonnaoojpdoaaGreatMxNest
import Derived.Test.YtchonnaoojpdoaaGreatFpatinaref01
import Derived.Test.YtchonnaoojpdoaaGreatF1
import Derived.Test.YtchonnaoojpdoaaGreatFfield
import Derived.Test.YtchonnaoojpdoaaGreatFpatinaref02
import Derived.Test.YtchonnaoojpdoaaGreatFrs
set_option linter.unusedVariables false
set_option linter.unusedSectionVars false
set_option linter.unusedSimpArgs false
namespace Go.Proofs.YtchonnaoojpdoaaGreat
def GF:Type:=BitVec 8
instance:DecidableEq GF:=inferInstanceAs (DecidableEq (BitVec 8))
instance:Inhabited GF:=inferInstanceAs (Inhabited (BitVec 8))
instance (n:Nat):OfNat GF n:=⟨BitVec.ofNat 8 n⟩
instance:Add GF:=⟨fun a b => BitVec.xor a b⟩
namespace GF
def v (a:GF):Nat:=BitVec.toNat (w:=8) a
def of (n:Nat):GF:=BitVec.ofNat 8 n
theorem v_lt (a:GF):a.v < 256:=BitVec.isLt (w:=8) a
theorem of_v (a:GF):of a.v = a:=by unfold of v;exact BitVec.ofNat_toNat' a
where
 BitVec.ofNat_toNat' (a:BitVec 8):BitVec.ofNat 8 a.toNat = a:=by simp
theorem v_of {n:Nat} (h:n < 256):(of n).v = n:=by unfold of v;rw [BitVec.toNat_ofNat];omega
theorem v_inj {a b:GF} (h:a.v = b.v):a = b:=by rw [← of_v a,← of_v b,h]
theorem add_comm (a b:GF):a + b = b + a:=BitVec.xor_comm (w:=8) a b
theorem add_assoc (a b c:GF):a + b + c = a + (b + c):=BitVec.xor_assoc (w:=8) a b c
theorem add_left_comm (a b c:GF):a + (b + c) = b + (a + c):=by rw [← add_assoc,add_comm a b,add_assoc]
theorem add_self (a:GF):a + a = 0:=BitVec.xor_self (w:=8) (x:=a)
theorem add_zero (a:GF):a + 0 = a:=BitVec.xor_zero (w:=8) (x:=a)
theorem zero_add (a:GF):0 + a = a:=BitVec.zero_xor (w:=8) (x:=a)
theorem add_cancel (a b:GF):a + (a + b) = b:=by rw [← add_assoc,add_self,zero_add]
theorem add_eq_zero {a b:GF}:a + b = 0 ↔ a = b:=by
 constructor
 ·intro h
  have:=congrArg (fun x => x + b) h
  simp only [add_assoc,add_self,add_zero,zero_add] at this
  exact this
 ·rintro rfl;exact add_self a
def xt (x:GF):GF:=(BitVec.xor (BitVec.shiftLeft (n:=8) x 1) (if BitVec.msb (n:=8) x then (0x1d:BitVec 8) else (0:BitVec 8)):BitVec 8)
theorem xt_zero:xt 0 = 0:=by decide
theorem xt_add (x y:GF):xt (x + y) = xt x + xt y:=by
 have key:∀ x y:BitVec 8,((x ^^^ y) <<< 1 ^^^ (if (x ^^^ y).msb then (0x1d:BitVec 8) else 0)) = ((x <<< 1 ^^^ (if x.msb then (0x1d:BitVec 8) else 0)) ^^^ (y <<< 1 ^^^ (if y.msb then (0x1d:BitVec 8) else 0))):=by
  have lc:∀ a b c:BitVec 8,a ^^^ (b ^^^ c) = b ^^^ (a ^^^ c):=fun a b c => by rw [← BitVec.xor_assoc,BitVec.xor_comm a b,BitVec.xor_assoc]
  have cn:∀ a b:BitVec 8,a ^^^ (a ^^^ b) = b:=fun a b => by rw [← BitVec.xor_assoc,BitVec.xor_self,BitVec.zero_xor]
  intro x y
  rw [BitVec.shiftLeft_xor_distrib,BitVec.msb_xor]
  generalize x <<< 1 = p
  generalize y <<< 1 = q
  have z:(0:BitVec 8) = 0#8:=rfl
  generalize (29:BitVec 8) = c
  cases x.msb <;> cases y.msb
  ·show p ^^^ q ^^^ 0 = p ^^^ 0 ^^^ (q ^^^ 0)
   rw [z,BitVec.xor_zero,BitVec.xor_zero,BitVec.xor_zero]
  ·show p ^^^ q ^^^ c = p ^^^ 0 ^^^ (q ^^^ c)
   rw [z,BitVec.xor_zero,BitVec.xor_assoc]
  ·show p ^^^ q ^^^ c = p ^^^ c ^^^ (q ^^^ 0)
   rw [z,BitVec.xor_zero,BitVec.xor_assoc,BitVec.xor_assoc,BitVec.xor_comm q]
  ·show p ^^^ q ^^^ 0 = p ^^^ c ^^^ (q ^^^ c)
   rw [z,BitVec.xor_zero,BitVec.xor_assoc,lc c q,BitVec.xor_self,BitVec.xor_zero]
 exact key x y
def xts:Nat → GF → GF
 | 0,x => x
 | n + 1,x => xts n (xt x)
theorem xts_zero (n:Nat):xts n 0 = 0:=by
 induction n with
 | zero => rfl
 | succ n ih => rw [xts,xt_zero,ih]
theorem xts_add (n:Nat) (x y:GF):xts n (x + y) = xts n x + xts n y:=by
 induction n generalizing x y with
 | zero => rfl
 | succ n ih => rw [xts,xt_add,ih];rfl
theorem xts_xts (m n:Nat) (x:GF):xts m (xts n x) = xts (n + m) x:=by
 induction n generalizing x with
 | zero => rw [Nat.zero_add];rfl
 | succ n ih => rw [xts,ih,Nat.add_right_comm];rfl
def pw (n:Nat):GF:=xts n 1
theorem xts_pw (m n:Nat):xts m (pw n) = pw (n + m):=xts_xts m n 1
theorem pw_succ (n:Nat):pw (n + 1) = xt (pw n):=(xts_pw 1 n).symm
theorem pw_zero:pw 0 = 1:=rfl
def tabGo:Nat → GF → List Nat
 | 0,_ => []
 | n + 1,x => x.v :: tabGo n (xt x)
def tabE:List Nat:=tabGo 255 1
theorem tabGo_get:∀ (n:Nat) (x:GF) (i:Nat),i < n → (tabGo n x)[i]? = some (xts i x).v
 | n + 1,x,0,_ => rfl
 | n + 1,x,i + 1,h => by
  rw [tabGo,List.getElem?_cons_succ,tabGo_get n (xt x) i (by omega)];rfl
theorem tabE_get {i:Nat} (h:i < 255):tabE[i]? = some (pw i).v:=tabGo_get 255 1 i h
def lg (a:GF):Nat:=tabE.idxOf a.v
theorem tabE_len:tabE.length = 255:=by decide +kernel
theorem tabE_all:(List.range 256).all (fun a => a == 0 || tabE.contains a) = true:=by decide +kernel
theorem tabE_nodup:(List.range 255).all (fun i => tabE.idxOf (tabE.getD i 0) == i && tabE.getD i 0 != 0) = true:=by decide +kernel
theorem pw_255:pw 255 = 1:=by decide +kernel
theorem pw_mod (n:Nat):pw (n % 255) = pw n:=by
 have h:∀ k r,pw (r + 255 * k) = pw r:=by
  intro k
  induction k with
  | zero => intro r;simp
  | succ k ih =>
   intro r
   rw [Nat.mul_succ,Nat.add_comm,Nat.add_comm (255 * k),Nat.add_assoc,← xts_pw,pw_255,← pw_zero,xts_pw,Nat.zero_add,Nat.add_comm,ih]
 rw [← h (n / 255) (n % 255),Nat.mod_add_div]
theorem lg_pw {i:Nat} (h:i < 255):lg (pw i) = i:=by
 have h1:=List.all_eq_true.1 tabE_nodup i (List.mem_range.2 h)
 simp only [Bool.and_eq_true,beq_iff_eq,bne_iff_ne] at h1
 rw [List.getD_eq_getElem?_getD,tabE_get h] at h1
 exact h1.1
theorem pw_ne {n:Nat}:pw n ≠ 0:=by
 rw [← pw_mod]
 have h:n % 255 < 255:=Nat.mod_lt _ (by omega)
 have h1:=List.all_eq_true.1 tabE_nodup _ (List.mem_range.2 h)
 simp only [Bool.and_eq_true,beq_iff_eq,bne_iff_ne] at h1
 rw [List.getD_eq_getElem?_getD,tabE_get h] at h1
 intro h2
 rw [h2] at h1
 exact h1.2 rfl
theorem v_ne {a:GF} (h:a ≠ 0):a.v ≠ 0:=fun h1 => h (v_inj (h1.trans rfl))
theorem lg_lt {a:GF} (h:a ≠ 0):lg a < 255:=by
 have h1:=List.all_eq_true.1 tabE_all a.v (List.mem_range.2 a.v_lt)
 simp only [Bool.or_eq_true,beq_iff_eq,List.contains_iff_mem] at h1
 rcases h1 with h1 | h1
 ·exact absurd h1 (v_ne h)
 ·unfold lg
  rw [← tabE_len]
  exact List.idxOf_lt_length_iff.2 h1
theorem pw_lg {a:GF} (h:a ≠ 0):pw (lg a) = a:=by
 have h1:=lg_lt h
 have h2:=tabE_get h1
 have h3:tabE[lg a]? = some a.v:=by
  unfold lg at h1 ⊢
  rw [← tabE_len] at h1
  rw [List.getElem?_eq_getElem h1,List.getElem_idxOf h1]
 rw [h2] at h3
 exact v_inj (by simpa using h3)
theorem lg_pw' (n:Nat):lg (pw n) = n % 255:=by rw [← pw_mod,lg_pw (Nat.mod_lt _ (by omega))]
theorem pw_inj {i j:Nat} (hi:i < 255) (hj:j < 255) (h:pw i = pw j):i = j:=by rw [← lg_pw hi,← lg_pw hj,h]
instance:Mul GF:=⟨fun a b => if a = 0 then 0 else xts (lg a) b⟩
theorem mul_def (a b:GF):a * b = if a = 0 then 0 else xts (lg a) b:=rfl
theorem zero_mul (a:GF):0 * a = 0:=by rw [mul_def,if_pos rfl]
theorem mul_zero (a:GF):a * 0 = 0:=by rw [mul_def];split;rfl;exact xts_zero _
theorem xts_mod (n:Nat) (x:GF):xts (n % 255) x = xts n x:=by
 by_cases h:x = 0
 ·rw [h,xts_zero,xts_zero]
 ·rw [← pw_lg h,xts_pw,xts_pw,← pw_mod,← pw_mod (lg x + n),Nat.add_mod_mod]
theorem pw_mul (n:Nat) (x:GF):pw n * x = xts n x:=by rw [mul_def,if_neg pw_ne,lg_pw',xts_mod]
theorem pw_pw (m n:Nat):pw m * pw n = pw (m + n):=by rw [pw_mul,xts_pw,Nat.add_comm]
theorem mul_add (a b c:GF):a * (b + c) = a * b + a * c:=by
 simp only [mul_def]
 split
 ·rw [add_zero]
 ·exact xts_add _ _ _
theorem mul_comm (a b:GF):a * b = b * a:=by
 by_cases ha:a = 0
 ·rw [ha,zero_mul,mul_zero]
 ·by_cases hb:b = 0
  ·rw [hb,zero_mul,mul_zero]
  ·rw [← pw_lg ha,← pw_lg hb,pw_pw,pw_pw,Nat.add_comm]
theorem add_mul (a b c:GF):(a + b) * c = a * c + b * c:=by rw [mul_comm,mul_add,mul_comm c,mul_comm c]
theorem mul_assoc (a b c:GF):a * b * c = a * (b * c):=by
 by_cases ha:a = 0
 ·rw [ha,zero_mul,zero_mul,zero_mul]
 ·by_cases hb:b = 0
  ·rw [hb,mul_zero,zero_mul,mul_zero]
  ·by_cases hc:c = 0
   ·rw [hc,mul_zero,mul_zero,mul_zero]
   ·rw [← pw_lg ha,← pw_lg hb,← pw_lg hc,pw_pw,pw_pw,pw_pw,pw_pw,Nat.add_assoc]
theorem mul_left_comm (a b c:GF):a * (b * c) = b * (a * c):=by rw [← mul_assoc,mul_comm a b,mul_assoc]
theorem one_mul (a:GF):1 * a = a:=by
 have:=pw_mul 0 a
 rwa [pw_zero] at this
theorem mul_one (a:GF):a * 1 = a:=by rw [mul_comm,one_mul]
theorem mul_ne {a b:GF} (ha:a ≠ 0) (hb:b ≠ 0):a * b ≠ 0:=by
 rw [← pw_lg ha,← pw_lg hb,pw_pw];exact pw_ne
theorem mul_eq_zero {a b:GF} (h:a * b = 0):a = 0 ∨ b = 0:=by
 by_cases ha:a = 0
 ·exact .inl ha
 ·by_cases hb:b = 0
  ·exact .inr hb
  ·exact absurd h (mul_ne ha hb)
theorem mul_lg {a b:GF} (ha:a ≠ 0) (hb:b ≠ 0):a * b = pw (lg a + lg b):=by rw [← pw_pw,pw_lg ha,pw_lg hb]
def inv (a:GF):GF:=pw (255 - lg a)
theorem mul_inv {a:GF} (h:a ≠ 0):a * inv a = 1:=by
 have:=lg_lt h
 have e:a * inv a = pw (lg a) * inv a:=by rw [pw_lg h]
 rw [e];unfold inv
 rw [pw_pw,show lg a + (255 - lg a) = 255 by omega,pw_255]
def div (a b:GF):GF:=a * inv b
theorem div_mul {a b:GF} (h:b ≠ 0):div a b * b = a:=by unfold div;rw [mul_assoc,mul_comm (inv b),mul_inv h,mul_one]
theorem mul_div {a b:GF} (h:b ≠ 0):div (a * b) b = a:=by unfold div;rw [mul_assoc,mul_inv h,mul_one]
end GF
end Go.Proofs.YtchonnaoojpdoaaGreat
set_option linter.unusedVariables false
set_option linter.unusedSectionVars false
set_option linter.unusedSimpArgs false
namespace Go.Proofs.YtchonnaoojpdoaaGreat
open Go.Mx
def Gr (m m':Mem):Prop:=∃ g,m' = m ++ g
theorem Gr.refl (m:Mem):Gr m m:=⟨[],by simp⟩
theorem Gr.app (m g:Mem):Gr m (m ++ g):=⟨g,rfl⟩
theorem Gr.trans {m m' m'':Mem} (h:Gr m m') (h':Gr m' m''):Gr m m'':=by
 obtain ⟨g,rfl⟩:=h
 obtain ⟨g',rfl⟩:=h'
 exact ⟨g ++ g',by simp⟩
theorem Gr.get {m m':Mem} (h:Gr m m') {p:Nat} {o:MObj} (hp:m[p]? = some o):m'[p]? = some o:=by
 obtain ⟨g,rfl⟩:=h;exact get_grow hp
theorem Gr.len {m m':Mem} (h:Gr m m'):m.length ≤ m'.length:=by obtain ⟨g,rfl⟩:=h;simp
theorem Gr.wr {m m':Mem} (h:Gr m m') {p:Nat} (hp:m.length ≤ p) (cs:List Value):Gr m (wr m' p cs):=by
 obtain ⟨g,rfl⟩:=h
 refine ⟨g.set (p - m.length) (.live cs),?_⟩
 unfold Mx.wr
 rw [List.set_append_right _ _ hp]
theorem Gr.rd {m m':Mem} (h:Gr m m') {p:Option Addr} {n z:Nat} {vs:List Value} (hr:rdSl m p n z = some vs):rdSl m' p n z = some vs:=by
 obtain ⟨g,rfl⟩:=h;exact rdSl_grow hr
def byI (w:Nat → GF):Int → Int:=fun i => ((w i.toNat).v:Int)
def bys (n:Nat) (w:Nat → GF):List Value:=arr .u8 n (byI w)
theorem bys_len {n:Nat} {w:Nat → GF}:(bys n w).length = n:=arr_length
theorem bys_get {n i:Nat} {w:Nat → GF} (h:i < n):(bys n w)[i]? = some (.int .u8 ((w i).v:Int)):=by
 unfold bys;rw [arr_get h];unfold byI;rw [Int.toNat_natCast]
theorem bys_congr {n:Nat} {u w:Nat → GF} (h:∀ i,i < n → u i = w i):bys n u = bys n w:=arr_congr fun i h0 h1 => by unfold byI;rw [h i.toNat (by omega)]
def put (w:Nat → GF) (i:Nat) (e:GF):Nat → GF:=fun k => if k = i then e else w k
theorem bys_set {n i:Nat} {w:Nat → GF} {e:GF}:(bys n w).set i (.int .u8 (e.v:Int)) = bys n (put w i e):=by
 apply List.ext_getElem?
 intro k
 rw [List.getElem?_set]
 by_cases hk:k < n
 ·rw [bys_get hk,bys_get hk,bys_len]
  unfold put
  by_cases h:i = k
  ·subst h;rw [if_pos rfl,if_pos hk,if_pos rfl]
  ·rw [if_neg h,if_neg (fun h2 => h h2.symm)]
 ·rw [List.getElem?_eq_none (by rw [bys_len];omega),List.getElem?_eq_none (by rw [bys_len];omega),bys_len]
  split
  ·rw [if_neg (by omega)]
  ·rfl
theorem bys_sub {n o l:Nat} {w:Nat → GF} (h:o + l ≤ n):((bys n w).drop o).take l = bys l fun i => w (o + i):=by
 apply List.ext_getElem?
 intro k
 rw [List.getElem?_take]
 by_cases hk:k < l
 ·rw [if_pos hk,List.getElem?_drop,bys_get (by omega),bys_get hk]
 ·rw [if_neg hk,List.getElem?_eq_none (by rw [bys_len];omega)]
theorem bys_append {a b:Nat} {u w:Nat → GF}:bys a u ++ bys b w = bys (a + b) fun i => if i < a then u i else w (i - a):=by
 apply List.ext_getElem?
 intro k
 rw [List.getElem?_append,bys_len]
 by_cases hk:k < a
 ·rw [if_pos hk,bys_get hk,bys_get (by omega),if_pos hk]
 ·rw [if_neg hk]
  by_cases hk2:k < a + b
  ·rw [bys_get (by omega),bys_get hk2,if_neg hk]
  ·rw [List.getElem?_eq_none (by rw [bys_len];omega),List.getElem?_eq_none (by rw [bys_len];omega)]
theorem bys_zero (n:Nat):repl n [.int .u8 0] = bys n fun _ => 0:=by rw [repl_int];rfl
theorem xor_v (a b:GF):bitI .xor .u8 (a.v:Int) (b.v:Int) = ((a + b).v:Int):=by
 have h1:BitVec.ofInt 8 (a.v:Int) = (a:BitVec 8):=by
  apply BitVec.eq_of_toNat_eq
  rw [BitVec.toNat_ofInt]
  have:=a.v_lt
  show ((a.v:Int) % _).toNat = a.v
  omega
 have h2:BitVec.ofInt 8 (b.v:Int) = (b:BitVec 8):=by
  apply BitVec.eq_of_toNat_eq
  rw [BitVec.toNat_ofInt]
  have:=b.v_lt
  show ((b.v:Int) % _).toNat = b.v
  omega
 show IntKind.u8.wrap ((BitVec.ofInt 8 (a.v:Int) ^^^ BitVec.ofInt 8 (b.v:Int)).toNat:Int) = _
 rw [h1,h2]
 have h3:=(a + b).v_lt
 show IntKind.u8.wrap ((a + b).v:Int) = _
 simp only [IntKind.wrap,IntKind.bits,IntKind.signed,Bool.false_and,Bool.false_eq_true,if_false]
 omega
theorem wrap_v (a:GF):IntKind.wrap .u8 (a.v:Int) = (a.v:Int):=by
 have:=a.v_lt
 simp only [IntKind.wrap,IntKind.bits,IntKind.signed,Bool.false_and,Bool.false_eq_true,if_false]
 omega
section
variable {m:Mem} {d n:Nat} {w:Nat → GF} {sp:Option Nat} (h:m[d]? = some (.live (bys n w)))
include h
theorem bys_ld {i:Nat} (hi:i < n):ldInt .u8 m ⟨d,i,sp⟩ = some ((w i).v:Int):=ldInt_of h (bys_get hi)
theorem bys_st {i:Nat} (hi:i < n) (e:GF):st m ⟨d,i,sp⟩ (.int .u8 (e.v:Int)) = some (wr m d (bys n (put w i e))):=by
 rw [st_wr h (by rw [bys_len];exact hi),bys_set]
theorem bys_rd {o l:Nat} (hl:o + l ≤ n):rdSl m (some ⟨d,o,sp⟩) l 1 = some (bys l fun i => w (o + i)):=by
 rw [rdSl_live h (by rw [bys_len];omega),Nat.mul_one,bys_sub hl]
theorem bys_rd0:rdSl m (some ⟨d,0,sp⟩) n 1 = some (bys n w):=rdSl_all h (by rw [bys_len,Nat.mul_one])
end
def Src (m:Mem) (a:Option Addr) (n:Nat) (w:Nat → GF):Prop:=rdSl m a n 1 = some (bys n w)
theorem Src.grow {m m':Mem} {a:Option Addr} {n:Nat} {w:Nat → GF} (h:Src m a n w) (hg:Gr m m'):Src m' a n w:=hg.rd h
theorem Src.ld {m:Mem} {a:Option Addr} {n:Nat} {w:Nat → GF} (h:Src m a n w) {i:Nat} (hi:i < n):∃ ad,a = some ad ∧ ldInt .u8 m (plus ad i) = some ((w i).v:Int):=by
 unfold Src rdSl at h
 cases a with
 | none => simp only at h;rw [if_neg (by omega)] at h;cases h
 | some ad =>
  refine ⟨ad,rfl,?_⟩
  simp only at h
  rw [if_neg (by omega),Nat.mul_one] at h
  unfold ldCells at h
  obtain ⟨cs,h1,h2⟩:=Option.bind_eq_some_iff.1 h
  unfold cCells at h2
  split at h2
  ·simp only [Option.some.injEq] at h2
   have h3:=bys_get (w:=w) hi
   rw [← h2,List.getElem?_take,if_pos hi,List.getElem?_drop] at h3
   unfold ldInt
   rw [show (plus ad i).block = ad.block from rfl,h1,Option.bind_some]
   unfold cInt
   rw [show (plus ad i).off = ad.off + i from rfl,h3]
   simp
  ·cases h2
theorem Src.of {m:Mem} {d n:Nat} {w:Nat → GF} {sp:Option Nat} (h:m[d]? = some (.live (bys n w))):Src m (some ⟨d,0,sp⟩) n w:=bys_rd0 h
theorem v_beq (a b:GF):((a.v:Int) == (b.v:Int)) = decide (a = b):=by
 by_cases h:a = b
 ·subst h;simp
 ·rw [decide_eq_false h]
  refine beqI_no fun h2 => h (GF.v_inj (by omega))
theorem v_beq0 (a:GF):((a.v:Int) == 0) = decide (a = 0):=by
 by_cases h:a = 0
 ·subst h;rfl
 ·rw [decide_eq_false h];exact beqI_no (by have:=GF.v_ne h;omega)
theorem v_bne (a b:GF):((a.v:Int) != (b.v:Int)) = !decide (a = b):=by unfold bne;rw [v_beq]
theorem v_bne0 (a:GF):((a.v:Int) != 0) = !decide (a = 0):=by unfold bne;rw [v_beq0]
end Go.Proofs.YtchonnaoojpdoaaGreat
set_option linter.unusedVariables false
set_option linter.unusedSectionVars false
set_option linter.unusedSimpArgs false
namespace Go.Proofs.YtchonnaoojpdoaaGreat
open Go.Mx
theorem Src.sub {m:Mem} {d n o l:Nat} {w:Nat → GF} {sp:Option Nat} (h:m[d]? = some (.live (bys n w))) (hl:o + l ≤ n):Src m (some ⟨d,o,sp⟩) l fun i => w (o + i):=bys_rd h hl
theorem Src.take {m:Mem} {d n l:Nat} {w:Nat → GF} {sp:Option Nat} (h:m[d]? = some (.live (bys n w))) (hl:l ≤ n):Src m (some ⟨d,0,sp⟩) l w:=by
 have:=Src.sub (sp:=sp) h (o:=0) (l:=l) (by omega)
 simpa using this
theorem same_is (k:Nat) {m:Mem} {a b:Option Addr} {n n' c c':Nat} {u w:Nat → GF} (ha:Src m a n u) (hb:Src m b n' w) (hk:n < k) (hn:n < 4611686018427387904) :
 ∃ z,patinaref01_Same k a n c b n' c' m = some (z,m) ∧ (z = true ↔ n = n' ∧ ∀ i,i < n → u i = w i):=by
 by_cases hne:n = n'
 ·subst hne
  have key:Ok (patinaref01_Same k a n c b n c' m) fun r => r.2 = m ∧ (r.1 = true ↔ ∀ i,i < n → u i = w i):=by
   unfold patinaref01_Same
   have h0:((n:Int) != (n:Int)) = false:=bneI_no rfl
   simp (disch:=omega) only [SX,plus,h0]
   refine patinaref01_Same_l0_rule k _ _ (fun r x0a x0n x0c x1a x1n x1c x5 m' => a = x0a ∧ n = x0n ∧ c = x0c ∧ b = x1a ∧ n = x1n ∧ c' = x1c ∧ m = m' ∧ ∃ j:Nat,x5 = j ∧ j + r = n ∧ ∀ i,i < j → u i = w i) ?_ k n _ _ _ _ _ _ _ _ hk ⟨rfl,rfl,rfl,rfl,rfl,rfl,rfl,0,rfl,by omega,fun i hi => by omega⟩
   rintro r nx _ _ _ _ _ _ _ _ ⟨rfl,rfl,rfl,rfl,rfl,rfl,rfl,j,rfl,hr,he⟩ hnx
   unfold patinaref01_Same_l0_b
   by_cases hj:(j:Int) < n
   ·obtain ⟨ad,rfl,e1⟩:=ha.ld (i:=j) (by omega)
    obtain ⟨bd,rfl,e2⟩:=hb.ld (i:=j) (by omega)
    unfold plus at e1 e2
    simp (disch:=omega) only [SX,plus,e1,e2,v_bne]
    by_cases h1:u j = w j
    ·rw [decide_eq_true h1]
     simp (disch:=omega) only [SX,plus]
     refine hnx (r - 1) _ _ _ _ _ _ _ _ (by omega) ⟨rfl,rfl,rfl,rfl,rfl,rfl,rfl,j + 1,by omega,by omega,fun i hi => ?_⟩
     by_cases h2:i = j
     ·rw [h2];exact h1
     ·exact he i (by omega)
    ·rw [decide_eq_false h1]
     simp (disch:=omega) only [SX,plus]
     exact .some ⟨rfl,⟨fun h => (by cases h),fun h => absurd (h j (by omega)) h1⟩⟩
   ·obtain rfl:j = n:=by omega
    simp (disch:=omega) only [SX,plus]
    exact .some ⟨rfl,⟨fun _ => he,fun _ => rfl⟩⟩
  obtain ⟨⟨z,m'⟩,h1,h2,h3⟩:=key
  simp only at h2 h3
  subst h2
  exact ⟨z,h1,⟨fun h => ⟨rfl,h3.1 h⟩,fun h => h3.2 h.2⟩⟩
 ·refine ⟨false,?_,⟨fun h => (by cases h),fun h => absurd h.1 hne⟩⟩
  unfold patinaref01_Same
  have h0:((n:Int) != (n':Int)) = true:=bneI_yes (by omega)
  simp (disch:=omega) only [SX,plus,h0]
theorem Src.congr {m:Mem} {a:Option Addr} {n:Nat} {u w:Nat → GF} (h:Src m a n u) (he:∀ i,i < n → w i = u i):Src m a n w:=by
 unfold Src at *;rw [h,bys_congr he]
end Go.Proofs.YtchonnaoojpdoaaGreat
set_option linter.unusedVariables false
set_option linter.unusedSectionVars false
set_option linter.unusedSimpArgs false
namespace Go.Proofs.YtchonnaoojpdoaaGreat
open Go.Mx
theorem Gr.kill {m0 m:Mem} (h:Gr m0 m) {b:Nat} (hb:m0.length ≤ b) (o:MObj):Gr m0 (m.set b o):=by
 obtain ⟨g,rfl⟩:=h
 exact ⟨g.set (b - m0.length) o,by rw [List.set_append_right _ _ hb]⟩
def Ab (m0 m:Mem) (a:Option Addr) (n:Nat) (w:Nat → GF):Prop:=Gr m0 m ∧ ((a = none ∧ n = 0) ∨ ∃ d,a = some ⟨d,0,some 1⟩ ∧ m0.length ≤ d ∧ m[d]? = some (.live (bys n w)))
theorem Ab.nil (m:Mem) (w:Nat → GF):Ab m m none 0 w:=⟨.refl _,.inl ⟨rfl,rfl⟩⟩
theorem Ab.grow {m0 m m':Mem} {a:Option Addr} {n:Nat} {w:Nat → GF} (h:Ab m0 m a n w) (hg:Gr m m'):Ab m0 m' a n w:=by
 obtain ⟨h1,h2⟩:=h
 refine ⟨h1.trans hg,?_⟩
 rcases h2 with h2 | ⟨d,h2,h3,h4⟩
 ·exact .inl h2
 ·exact .inr ⟨d,h2,h3,hg.get h4⟩
theorem Ab.src {m0 m:Mem} {a:Option Addr} {n:Nat} {w:Nat → GF} (h:Ab m0 m a n w):Src m a n w:=by
 rcases h.2 with ⟨rfl,rfl⟩ | ⟨d,rfl,_,h4⟩
 ·rfl
 ·exact Src.of h4
theorem Ab.congr {m0 m:Mem} {a:Option Addr} {n:Nat} {u w:Nat → GF} (h:Ab m0 m a n w) (he:∀ i,i < n → w i = u i):Ab m0 m a n u:=by
 rcases h with ⟨h1,h2 | ⟨d,h2,h3,h4⟩⟩
 ·exact ⟨h1,.inl h2⟩
 ·exact ⟨h1,.inr ⟨d,h2,h3,by rw [h4,bys_congr he]⟩⟩
theorem Ab.app {m0 m:Mem} {a:Option Addr} {n l:Nat} {w u:Nat → GF} (h:Ab m0 m a n w) (hl:0 < l) (hb:n + l ≤ most) :
 ∃ a' m',appM 1 1 m a n n l (bys l u) = some (⟨a',n + l,n + l⟩,m') ∧ Ab m0 m' a' (n + l) fun i => if i < n then w i else u (i - n):=by
 obtain ⟨h1,⟨rfl,rfl⟩ | ⟨d,rfl,h3,h4⟩⟩:=h
 ·refine ⟨some ⟨m.length,0,some 1⟩,m ++ [.live (bys l u)],?_,h1.trans (Gr.app _ _),.inr ⟨m.length,rfl,h1.len,?_⟩⟩
  ·rw [Nat.zero_add];exact appM_first hl (by omega) (by omega)
  ·rw [get_last rfl,Nat.zero_add,bys_congr (u:=fun i => if i < 0 then w i else u (i - 0)) (w:=u) fun i _ => if_neg (by omega)]
 ·refine ⟨some ⟨m.length,0,some 1⟩,m.set d (.old (bys n w) m.length) ++ [.live (bys (n + l) fun i => if i < n then w i else u (i - n))],?_,(h1.kill h3 _).trans (Gr.app _ _),.inr ⟨m.length,rfl,h1.len,get_last (by simp)⟩⟩
  rw [appM_grow h4 (by rw [bys_len,Nat.mul_one]) hl (by omega) (by omega),bys_append]
theorem Ab.one {m0 m:Mem} {a:Option Addr} {n:Nat} {w:Nat → GF} (h:Ab m0 m a n w) (v:GF) (hb:n + 1 ≤ most) :
 ∃ a' m',appM 1 1 (m ++ [.live [.int .u8 (v.v:Int)]]) a n n 1 [.int .u8 (v.v:Int)] = some (⟨a',n + 1,n + 1⟩,m') ∧ Ab m0 m' a' (n + 1) (put w n v):=by
 have hc:[Value.int .u8 (v.v:Int)] = bys 1 fun _ => v:=rfl
 rw [hc]
 obtain ⟨a',m',h1,h2⟩:=(h.grow (Gr.app m [.live (bys 1 fun _ => v)])).app (u:=fun _ => v) (l:=1) (by omega) hb
 refine ⟨a',m',h1,h2.congr fun i hi => ?_⟩
 unfold put
 by_cases h3:i = n
 ·rw [if_pos h3,if_neg (by omega)]
 ·rw [if_neg h3,if_pos (by omega)]
def Ac (b:Nat) (m:Mem) (a:Option Addr) (n:Nat) (w:Nat → GF):Prop:=(a = none ∧ n = 0) ∨ ∃ d,a = some ⟨d,0,some 1⟩ ∧ b ≤ d ∧ m[d]? = some (.live (bys n w))
theorem Ac.nil (b:Nat) (m:Mem) (w:Nat → GF):Ac b m none 0 w:=.inl ⟨rfl,rfl⟩
theorem Ac.congr {b:Nat} {m:Mem} {a:Option Addr} {n:Nat} {u w:Nat → GF} (h:Ac b m a n w) (he:∀ i,i < n → w i = u i):Ac b m a n u:=by
 rcases h with h2 | ⟨d,h2,h3,h4⟩
 ·exact .inl h2
 ·exact .inr ⟨d,h2,h3,by rw [h4,bys_congr he]⟩
theorem Ac.src {b:Nat} {m:Mem} {a:Option Addr} {n:Nat} {w:Nat → GF} (h:Ac b m a n w):Src m a n w:=by
 rcases h with ⟨rfl,rfl⟩ | ⟨d,rfl,_,h4⟩
 ·rfl
 ·exact Src.of h4
theorem Ac.keep {b:Nat} {m m':Mem} {a:Option Addr} {n:Nat} {w:Nat → GF} (h:Ac b m a n w) (hk:∀ p o,b ≤ p → m[p]? = some o → m'[p]? = some o):Ac b m' a n w:=by
 rcases h with h2 | ⟨d,h2,h3,h4⟩
 ·exact .inl h2
 ·exact .inr ⟨d,h2,h3,hk d _ h3 h4⟩
theorem Ac.app {b:Nat} {m:Mem} {a:Option Addr} {n l:Nat} {w u:Nat → GF} (h:Ac b m a n w) (hb0:b ≤ m.length) (hl:0 < l) (hb:n + l ≤ most) :
 ∃ m',appM 1 1 m a n n l (bys l u) = some (⟨some ⟨m.length,0,some 1⟩,n + l,n + l⟩,m') ∧ Ac b m' (some ⟨m.length,0,some 1⟩) (n + l) (fun i => if i < n then w i else u (i - n)) ∧ m'.length = m.length + 1 ∧
  m'[m.length]? = some (.live (bys (n + l) fun i => if i < n then w i else u (i - n))) ∧ (∀ p,p < m.length → (∀ d,a = some ⟨d,0,some 1⟩ → p ≠ d) → m'[p]? = m[p]?) ∧ ∀ m0,Gr m0 m → m0.length ≤ b → Gr m0 m':=by
 rcases h with ⟨rfl,rfl⟩ | ⟨d,rfl,h3,h4⟩
 ·have e:bys (0 + l) (fun i => if i < 0 then w i else u (i - 0)) = bys l u:=by rw [Nat.zero_add];exact bys_congr fun i _ => if_neg (by omega)
  refine ⟨m ++ [.live (bys l u)],?_,.inr ⟨m.length,rfl,hb0,?_⟩,by simp,?_,fun p hp _ => get_app_lt hp,fun m0 h0 _ => h0.trans (Gr.app _ _)⟩
  ·rw [Nat.zero_add];exact appM_first hl (by omega) (by omega)
  ·rw [get_last rfl,e]
  ·rw [get_last rfl,e]
 ·refine ⟨m.set d (.old (bys n w) m.length) ++ [.live (bys (n + l) fun i => if i < n then w i else u (i - n))],?_,.inr ⟨m.length,rfl,hb0,get_last (by simp)⟩,by simp,get_last (by simp),fun p hp hd => ?_,fun m0 h0 h1 => (h0.kill (by omega) _).trans (Gr.app _ _)⟩
  ·rw [appM_grow h4 (by rw [bys_len,Nat.mul_one]) hl (by omega) (by omega),bys_append]
  ·rw [get_app_lt (by simpa using hp),get_set_ne (fun h => hd d rfl h.symm)]
theorem Ac.one {b:Nat} {m:Mem} {a:Option Addr} {n:Nat} {w:Nat → GF} (h:Ac b m a n w) (hb0:b ≤ m.length) (v:GF) (hb:n + 1 ≤ most) :
 ∃ m',appM 1 1 (m ++ [.live [.int .u8 (v.v:Int)]]) a n n 1 [.int .u8 (v.v:Int)] = some (⟨some ⟨m.length + 1,0,some 1⟩,n + 1,n + 1⟩,m') ∧ Ac b m' (some ⟨m.length + 1,0,some 1⟩) (n + 1) (put w n v) ∧ m'.length = m.length + 2 ∧
  m'[m.length + 1]? = some (.live (bys (n + 1) (put w n v))) ∧ (∀ p,p < m.length → (∀ d,a = some ⟨d,0,some 1⟩ → p ≠ d) → m'[p]? = m[p]?) ∧ ∀ m0,Gr m0 m → m0.length ≤ b → Gr m0 m':=by
 have hc:[Value.int .u8 (v.v:Int)] = bys 1 fun _ => v:=rfl
 rw [hc]
 have hl:(m ++ [MObj.live (bys 1 fun _ => v)]).length = m.length + 1:=by simp
 obtain ⟨m',h1,h2,h3,h4,h5,h6⟩:=(h.keep (m':=m ++ [.live (bys 1 fun _ => v)]) fun p o _ hp => get_grow hp).app (u:=fun _ => v) (l:=1) (by omega) (by omega) hb
 rw [hl] at h1 h2 h3 h4 h5
 have e:∀ i,i < n + 1 → (if i < n then w i else v) = put w n v i:=fun i hi => by
  unfold put
  by_cases h3:i = n
  ·rw [if_pos h3,if_neg (by omega)]
  ·rw [if_neg h3,if_pos (by omega)]
 exact ⟨m',h1,h2.congr e,by omega,by rw [h4,bys_congr e],fun p hp hd => by rw [h5 p (by omega) hd,get_app_lt hp],fun m0 h0 h8 => h6 m0 (h0.trans (Gr.app _ _)) h8⟩
end Go.Proofs.YtchonnaoojpdoaaGreat
set_option linter.unusedVariables false
set_option linter.unusedSectionVars false
set_option linter.unusedSimpArgs false
namespace Go.Proofs.YtchonnaoojpdoaaGreat
open Go.Mx
def sls (N:Nat) (D:Nat → Nat) (nn:Nat → Nat) (sp:Option Nat):List Value:=(List.range N).map fun i => .slice (some ⟨D i,0,sp⟩) (nn i) (nn i)
theorem sls_len {N:Nat} {D nn:Nat → Nat} {sp:Option Nat}:(sls N D nn sp).length = N:=by simp [sls]
theorem sls_get {N:Nat} {D nn:Nat → Nat} {sp:Option Nat} {i:Nat} (h:i < N):(sls N D nn sp)[i]? = some (.slice (some ⟨D i,0,sp⟩) (nn i) (nn i)):=by simp [sls,h]
theorem sls_snoc {N:Nat} {D nn:Nat → Nat} {sp:Option Nat}:sls N D nn sp ++ [.slice (some ⟨D N,0,sp⟩) (nn N) (nn N)] = sls (N + 1) D nn sp:=by
 unfold sls;rw [List.range_succ,List.map_append];rfl
theorem sls_congr {N:Nat} {D D' nn nn':Nat → Nat} {sp:Option Nat} (h:∀ i,i < N → D i = D' i ∧ nn i = nn' i):sls N D nn sp = sls N D' nn' sp:=by
 unfold sls
 apply List.map_congr_left
 intro i hi
 rw [(h i (List.mem_range.1 hi)).1,(h i (List.mem_range.1 hi)).2]
def mk1 (i k:Nat):GF:=GF.of ((37 * (i:Int) + (k:Int)) % 256).toNat
def mk2 (i k:Nat):GF:=GF.of ((100 + 37 * (i:Int) + (k:Int)) % 256).toNat
def Gc (b:Nat) (m:Mem) (a:Option Addr) (N:Nat) (G:Nat → Nat) (nn:Nat → Nat):Prop:=(a = none ∧ N = 0) ∨ ∃ q,a = some ⟨q,0,some 1⟩ ∧ b ≤ q ∧ m[q]? = some (.live (sls N G (fun i => nn i + 7) (some 1))) ∧ ∀ i,i < N → G i ≠ q
structure ApS (m0 m:Mem) (q:Nat) (M:Nat) (D nn:Nat → Nat) (L:Nat → Nat) (i:Nat) (a:Option Addr) (G:Nat → Nat):Prop where
 len:m0.length ≤ m.length
 box:m[q]? = some (.live (sls M D nn none))
 old:∀ j,j < M → ∃ u,m[D j]? = some (.live (bys (L j) u)) ∧ (j < i → ∀ k,k < nn j → u k = mk1 j k)
 grow:Gc m0.length m a i G nn
 g_:∀ j,j < i → m0.length ≤ G j ∧ ∃ u,m[G j]? = some (.live (bys (nn j + 7) u)) ∧ (∀ k,k < nn j → u k = mk1 j k) ∧ ∀ k,k < 7 → u (nn j + k) = mk2 j k
end Go.Proofs.YtchonnaoojpdoaaGreat
set_option linter.unusedVariables false
set_option linter.unusedSectionVars false
set_option linter.unusedSimpArgs false
namespace Go.Proofs.YtchonnaoojpdoaaGreat
open Go.Mx
abbrev RA:=Option (Nat × Bool)
def rowA:RA → Option Addr
 | none => none
 | some (D,false) => some ⟨D,0,none⟩
 | some (D,true) => some ⟨D,0,some 1⟩
def RowLive (m:Mem) (r:RA) (n L:Nat) (P:(Nat → GF) → Prop):Prop:=match r with
 | none => n = 0
 | some (D,a) => ∃ u,m[D]? = some (.live (bys L u)) ∧ P u ∧ n ≤ L ∧ (a = true → n = L)
def rowD:RA → Option Nat:=fun r => r.map (·.1)
theorem RowLive.keep {m m':Mem} {r:RA} {n L:Nat} {P:(Nat → GF) → Prop} (h:RowLive m r n L P) (hk:∀ D,rowD r = some D → m'[D]? = m[D]?):RowLive m' r n L P:=by
 cases r with
 | none => exact h
 | some x =>
  obtain ⟨D,a⟩:=x
  obtain ⟨u,h1,h2⟩:=h
  exact ⟨u,by rw [hk D rfl];exact h1,h2⟩
end Go.Proofs.YtchonnaoojpdoaaGreat
set_option linter.unusedVariables false
set_option linter.unusedSectionVars false
set_option linter.unusedSimpArgs false
namespace Go.Proofs.YtchonnaoojpdoaaGreat
open Go.Mx
theorem RowLive.src {m:Mem} {r:RA} {n L:Nat} {w:Nat → GF} (h:RowLive m r n L fun u => ∀ i,i < n → u i = w i):Src m (rowA r) n w:=by
 cases r with
 | none => have h0:n = 0:=h;subst h0;rfl
 | some x =>
  obtain ⟨D,a⟩:=x
  obtain ⟨u,h1,h2,h3,_⟩:=h
  cases a
  ·exact (Src.take (sp:=none) h1 h3).congr fun i hi => (h2 i hi).symm
  ·exact (Src.take (sp:=some 1) h1 h3).congr fun i hi => (h2 i hi).symm
theorem RowLive.lt {m:Mem} {r:RA} {n L:Nat} {P:(Nat → GF) → Prop} (h:RowLive m r n L P):∀ D,rowD r = some D → D < m.length:=by
 intro D hD
 cases r with
 | none => cases hD
 | some x => obtain ⟨D',a⟩:=x;obtain ⟨u,h1,_⟩:=h;cases hD;exact get_lt h1
theorem RowLive.grow {m m':Mem} {r:RA} {n L:Nat} {P:(Nat → GF) → Prop} (h:RowLive m r n L P) (hg:Gr m m'):RowLive m' r n L P:=by
 cases r with
 | none => exact h
 | some x => obtain ⟨D,a⟩:=x;obtain ⟨u,h1,h2⟩:=h;exact ⟨u,hg.get h1,h2⟩
end Go.Proofs.YtchonnaoojpdoaaGreat
set_option linter.unusedVariables false
set_option linter.unusedSectionVars false
set_option linter.unusedSimpArgs false
namespace Go.Proofs.YtchonnaoojpdoaaGreat
open Go.Mx
structure Lent (m:Mem) (x d e n:Nat) (u:Nat → GF):Prop where
 xd:x ≠ d
 xe:x ≠ e
 de:d ≠ e
 x_:m[x]? = some (.live [.slice (some ⟨d,0,some 1⟩) (n + 5) (n + 5),.slice (some ⟨e,0,some 1⟩) (n + 5) (n + 5),.int .i64 n])
 d_:m[d]? = some (.live (bys (n + 5) u))
 e_:m[e]? = some (.live (bys (n + 5) u))
theorem wrap70 {i:Nat} (hi:i < 5):IntKind.wrap .u8 (70 + (i:Int)) = ((GF.of (70 + i)).v:Int):=by
 rw [GF.v_of (by omega)]
 simp only [IntKind.wrap,IntKind.bits,IntKind.signed,Bool.false_and,Bool.false_eq_true,if_false]
 omega
theorem wrapB (z:Int):IntKind.wrap .u8 z = ((GF.of (z % 256).toNat).v:Int):=by
 rw [GF.v_of (by omega)]
 simp only [IntKind.wrap,IntKind.bits,IntKind.signed,Bool.false_and,Bool.false_eq_true,if_false]
 omega
theorem lend_ok (k:Nat) (hk:1000 < k) {m:Mem} {b:Option Addr} {n c:Nat} {w:Nat → GF} (hw:Src m b n w) (hn:n ≤ 140737488351232) :
 Ok (patinaref01_Lend k b n c m) fun r => ∃ x d e u,r.1 = some ⟨x,0,none⟩ ∧ Gr m r.2 ∧ m.length ≤ x ∧ m.length ≤ d ∧ m.length ≤ e ∧ Lent r.2 x d e n u ∧ ∀ i,i < n → u i = w i:=by
 unfold patinaref01_Lend
 have hx1:=get_last (m:=m) (o:=.live [.slice none 0 0,.slice none 0 0,.int .i64 (n:Int)]) rfl
 have hg1:Gr m (m ++ [.live [.slice none 0 0,.slice none 0 0,.int .i64 (n:Int)]]):=Gr.app _ _
 have hl1:(m ++ [MObj.live [.slice none 0 0,.slice none 0 0,.int .i64 (n:Int)]]).length = m.length + 1:=by simp
 generalize m ++ [MObj.live [.slice none 0 0,.slice none 0 0,.int .i64 (n:Int)]] = m1 at *
 have l1:ldSl m1 ⟨m.length,0,none⟩ = some ⟨none,0,0⟩:=ldSl_of hx1 rfl
 have hw1:rdSl m1 b n 1 = some (bys n w):=hw.grow hg1
 have first:∃ a m2,appM 1 1 m1 none 0 0 n (bys n w) = some (⟨a,n,n⟩,m2) ∧ Gr m m2 ∧ Ac (m.length + 1) m2 a n w ∧ m2[m.length]? = m1[m.length]?:=by
  by_cases h0:n = 0
  ·subst h0
   refine ⟨none,m1,?_,hg1,.nil _ _ _,rfl⟩
   unfold appM
   rfl
  ·obtain ⟨m2,h1,h2,h3,h4,h5,h6⟩:=(Ac.nil (m.length + 1) m1 w).app (u:=w) (l:=n) (by omega) (by omega) (by unfold most;omega)
   rw [Nat.zero_add] at h1 h2
   exact ⟨_,m2,h1,h6 m hg1 (by omega),h2.congr fun i _ => by rw [if_neg (by omega)];rfl,h5 _ (by omega) fun d hd => by cases hd⟩
 obtain ⟨a,m2,e1,hG2,hA,hx2⟩:=first
 rw [hx1] at hx2
 have e2:=st_wr (sp:=none) (off:=0) (v:=.slice a n n) hx2 (by simp)
 simp (disch:=omega) only [SX,plus,l1,hw1,e1,e2]
 have hset:∀ (y z:Value) (a:Option Addr) (n':Nat),([y,z,.int .i64 (n:Int)]:List Value).set 0 (.slice a n' n') = [.slice a n' n',z,.int .i64 (n:Int)]:=fun _ _ _ _ => rfl
 have keepx:∀ {m':Mem} {a:Option Addr} {n':Nat} {u:Nat → GF} (cs:List Value),Ac (m.length + 1) m' a n' u → Ac (m.length + 1) (wr m' m.length cs) a n' u:=fun cs h => h.keep fun p o hp ho => by rw [wr_ne (by omega)];exact ho
 rw [hset]
 refine patinaref01_Lend_l0_rule k _ (fun r x3 x4 m' => ⟨m.length,0,none⟩ = x3 ∧ ∃ (i:Nat) (a:Option Addr) (u:Nat → GF),x4 = i ∧ i + r = 5 ∧ Gr m m' ∧ m.length < m'.length ∧ Ac (m.length + 1) m' a (n + i) u ∧ m'[m.length]? = some (.live [.slice a (n + i) (n + i),.slice none 0 0,.int .i64 (n:Int)]) ∧ ∀ j,j < n → u j = w j) ?_ k 5 _ _ _ (by omega)
  ⟨rfl,0,a,w,rfl,by omega,hG2.wr (Nat.le_refl _) _,by rw [wr_len];exact get_lt hx2,keepx _ hA,wr_get hx2,fun _ _ => rfl⟩
 rintro r nx _ _ m' ⟨rfl,i,a,u,rfl,hr,hG,hlt,hA,hx,hu⟩ hnx
 unfold patinaref01_Lend_l0_b
 have f1:ldSl m' ⟨m.length,0,none⟩ = some ⟨a,n + i,n + i⟩:=ldSl_of hx rfl
 have nd:∀ d,a = some ⟨d,0,some 1⟩ → m.length ≠ d:=by
  rintro d rfl
  rcases hA with ⟨h,_⟩ | ⟨d',h,h2,_⟩
  ·cases h
  ·simp only [Option.some.injEq,Addr.mk.injEq] at h;omega
 by_cases hi:(i:Int) < 5
 ·obtain ⟨m3,g1,g2,g3,g4,g5,g6⟩:=hA.one (by omega) (GF.of (70 + i)) (by unfold most;omega)
  have hx3:=g5 m.length hlt nd
  rw [hx] at hx3
  have g7:=st_wr (sp:=none) (off:=0) (v:=.slice (some ⟨m'.length + 1,0,some 1⟩) (n + i + 1) (n + i + 1)) hx3 (by simp)
  rw [hset] at g7
  simp (disch:=omega) only [SX,plus,f1,wrap70,rdSl_new,g1,g7]
  refine hnx (r - 1) _ _ _ (by omega) ⟨rfl,i + 1,_,_,by omega,by omega,(g6 m hG (by omega)).wr (Nat.le_refl _) _,by rw [wr_len];omega,keepx _ g2,wr_get hx3,fun j hj => ?_⟩
  unfold put;rw [if_neg (by omega)];exact hu j hj
 ·obtain rfl:i = 5:=by omega
  have f2:ldSl m' ⟨m.length,1,none⟩ = some ⟨none,0,0⟩:=ldSl_of hx rfl
  have f3:=hA.src
  unfold Src at f3
  obtain ⟨m3,g1,g2,g3,g4,g5,g6⟩:=(Ac.nil (m.length + 1) m' u).app (u:=u) (l:=n + 5) (by omega) (by omega) (by unfold most;omega)
  rw [Nat.zero_add] at g1 g2 g4
  have hx3:=g5 m.length hlt fun d hd => by cases hd
  rw [hx] at hx3
  have g7:=st_wr (sp:=none) (off:=1) (v:=.slice (some ⟨m'.length,0,some 1⟩) (n + 5) (n + 5)) hx3 (by simp)
  simp (disch:=omega) only [SX,plus,f1,f2,f3,g1,g7]
  rcases hA with ⟨_,h⟩ | ⟨d,rfl,hd1,hd2⟩
  ·omega
  have hdl:=get_lt hd2
  refine .some ⟨m.length,d,m'.length,u,rfl,(g6 m hG (by omega)).wr (Nat.le_refl _) _,Nat.le_refl _,by omega,by omega,⟨by omega,by omega,by omega,wr_get hx3,?_,?_⟩,hu⟩
  ·rw [wr_ne (by omega),g5 d hdl fun d' hd' => by cases hd'];exact hd2
  ·rw [wr_ne (by omega),g4]
   congr 2
theorem bytes_is (k:Nat) {m:Mem} {x d e n:Nat} {u:Nat → GF} (h:Lent m x d e n u):patinaref01_Lent_Bytes k (some ⟨x,0,none⟩) m = some (⟨some ⟨d,0,some 1⟩,n,n + 5⟩,m):=by
 unfold patinaref01_Lent_Bytes
 have f1:ldSl m ⟨x,0,none⟩ = some ⟨some ⟨d,0,some 1⟩,n + 5,n + 5⟩:=ldSl_of h.x_ rfl
 have f2:ldInt .i64 m ⟨x,2,none⟩ = some (n:Int):=ldInt_of h.x_ rfl
 have hcl:sliceK.clear (some ⟨d,0,some 1⟩) false = some ⟨d,0,some 1⟩:=rfl
 have hu:inUpto (n:Int) (n + 5) = true:=inUpto_yes (by omega) (by omega)
 simp (disch:=omega) only [SX,plus,f1,f2,hcl,hu]
theorem kept_is (k:Nat) {m:Mem} {x d e n:Nat} {u:Nat → GF} (h:Lent m x d e n u) (hk:n + 5 < k) (hn:n < 4611686018427387000):patinaref01_Lent_Kept k (some ⟨x,0,none⟩) m = some (true,m):=by
 unfold patinaref01_Lent_Kept
 have f1:ldSl m ⟨x,0,none⟩ = some ⟨some ⟨d,0,some 1⟩,n + 5,n + 5⟩:=ldSl_of h.x_ rfl
 have f2:ldSl m ⟨x,1,none⟩ = some ⟨some ⟨e,0,some 1⟩,n + 5,n + 5⟩:=ldSl_of h.x_ rfl
 obtain ⟨z,e8,e9⟩:=same_is k (c:=n + 5) (c':=n + 5) (Src.of (sp:=some 1) h.d_) (Src.of (sp:=some 1) h.e_) hk (by omega)
 have hz:z = true:=e9.2 ⟨rfl,fun i hi => rfl⟩
 subst hz
 simp (disch:=omega) only [SX,plus,f1,f2,e8]
theorem turn_ok (k:Nat) {m:Mem} {x d e n:Nat} {u:Nat → GF} (h:Lent m x d e n u) (hk:n + 5 < k) (hn:n ≤ 140737488351232) :
 Ok (patinaref01_Lent_Turn k (some ⟨x,0,none⟩) m) fun m' => (∃ u',Lent m' x d e n u') ∧ (∀ p,p ≠ d → p ≠ e → m'[p]? = m[p]?) ∧ m'.length = m.length ∧ ∀ m0,Gr m0 m → m0.length ≤ d → m0.length ≤ e → Gr m0 m':=by
 unfold patinaref01_Lent_Turn
 refine patinaref01_Lent_Turn_l0_rule k _ (fun r x0 x2 m' => (some ⟨x,0,none⟩:Option Addr) = x0 ∧ ∃ (i:Nat) (u':Nat → GF),x2 = i ∧ i + r = n + 5 ∧ m' = wr (wr m d (bys (n + 5) u')) e (bys (n + 5) u')) ?_ k (n + 5) _ _ _ hk ⟨rfl,0,u,rfl,by omega,by
  rw [wr_same h.d_,wr_same h.e_]⟩
 rintro r nx _ _ m' ⟨rfl,i,u',rfl,hr,rfl⟩ hnx
 have hd:=wr_get (cs:=bys (n + 5) u') h.d_
 have he:(wr m d (bys (n + 5) u'))[e]? = some (.live (bys (n + 5) u)):=by rw [wr_ne h.de];exact h.e_
 have he2:=wr_get (cs:=bys (n + 5) u') he
 have hd2:(wr (wr m d (bys (n + 5) u')) e (bys (n + 5) u'))[d]? = some (.live (bys (n + 5) u')):=by rw [wr_ne (Ne.symm h.de)];exact hd
 have hx2:(wr (wr m d (bys (n + 5) u')) e (bys (n + 5) u'))[x]? = m[x]?:=by rw [wr_ne (Ne.symm h.xe),wr_ne (Ne.symm h.xd)]
 have hL:Lent (wr (wr m d (bys (n + 5) u')) e (bys (n + 5) u')) x d e n u':=⟨h.xd,h.xe,h.de,by rw [hx2];exact h.x_,hd2,he2⟩
 unfold patinaref01_Lent_Turn_l0_b
 have f1:ldSl (wr (wr m d (bys (n + 5) u')) e (bys (n + 5) u')) ⟨x,0,none⟩ = some ⟨some ⟨d,0,some 1⟩,n + 5,n + 5⟩:=ldSl_of hL.x_ rfl
 have nc:((n + 5:Nat):Int) = (n:Int) + 5:=by omega
 by_cases hi:(i:Int) < (n:Int) + 5
 ·have f2:=bys_st (sp:=some 1) hd2 (i:=i) (by omega) (GF.of ((90 + (i:Int)) % 256).toNat)
  have hx3:(wr (wr (wr m d (bys (n + 5) u')) e (bys (n + 5) u')) d (bys (n + 5) (put u' i (GF.of ((90 + (i:Int)) % 256).toNat))))[x]? = some (.live [.slice (some ⟨d,0,some 1⟩) (n + 5) (n + 5),.slice (some ⟨e,0,some 1⟩) (n + 5) (n + 5),.int .i64 (n:Int)]):=by
   rw [wr_ne (Ne.symm h.xd)];exact hL.x_
  have f3:∀ M:Mem,M[x]? = some (.live [.slice (some ⟨d,0,some 1⟩) (n + 5) (n + 5),.slice (some ⟨e,0,some 1⟩) (n + 5) (n + 5),.int .i64 (n:Int)]) → ldSl M ⟨x,1,none⟩ = some ⟨some ⟨e,0,some 1⟩,n + 5,n + 5⟩ ∧ ldSl M ⟨x,0,none⟩ = some ⟨some ⟨d,0,some 1⟩,n + 5,n + 5⟩:=fun M hM => ⟨ldSl_of hM rfl,ldSl_of hM rfl⟩
  obtain ⟨f4,f5⟩:=f3 _ hx3
  have f6:=bys_ld (sp:=some 1) (wr_get (cs:=bys (n + 5) (put u' i (GF.of ((90 + (i:Int)) % 256).toNat))) hd2) (i:=i) (by omega)
  have hp:put u' i (GF.of ((90 + (i:Int)) % 256).toNat) i = GF.of ((90 + (i:Int)) % 256).toNat:=if_pos rfl
  rw [hp] at f6
  have he3:(wr (wr (wr m d (bys (n + 5) u')) e (bys (n + 5) u')) d (bys (n + 5) (put u' i (GF.of ((90 + (i:Int)) % 256).toNat))))[e]? = some (.live (bys (n + 5) u')):=by rw [wr_ne h.de];exact he2
  have f7:=bys_st (sp:=some 1) he3 (i:=i) (by omega) (GF.of ((90 + (i:Int)) % 256).toNat)
  have hin:inRange (i:Int) (n + 5) = true:=inRange_yes (by omega) (by omega)
  have hw90:IntKind.wrap .i64 (90 + (i:Int)) = 90 + (i:Int):=wrap_i64 (by omega) (by omega)
  simp (disch:=omega) only [SX,plus,f1,nc,hin,hw90,wrapB,f2,f4,f5,f6,f7]
  refine hnx (r - 1) _ _ _ (by omega) ⟨rfl,i + 1,put u' i (GF.of ((90 + (i:Int)) % 256).toNat),by omega,by omega,?_⟩
  apply List.ext_getElem?
  intro p
  unfold wr
  simp only [List.getElem?_set,List.length_set]
  by_cases hpe:e = p
  ·subst hpe;simp [h.de]
  ·by_cases hpd:d = p
   ·subst hpd;simp [Ne.symm h.de,hpe]
   ·simp [hpe,hpd]
 ·obtain rfl:i = n + 5:=by omega
  simp (disch:=omega) only [SX,plus,f1,nc]
  exact .some ⟨⟨u',hL⟩,fun p h1 h2 => by rw [wr_ne (Ne.symm h2),wr_ne (Ne.symm h1)],by rw [wr_len,wr_len],fun m0 h0 h1 h2 => (h0.wr h1 _).wr h2 _⟩
end Go.Proofs.YtchonnaoojpdoaaGreat
set_option linter.unusedVariables false
set_option linter.unusedSimpArgs false
namespace Go.Proofs.YtchonnaoojpdoaaGreat
open Go.Mx
def errC (c:Int):Value:=if c = 0 then .nilIface else .iface ty_api_Code (.int .i64 c)
theorem errC_pos {c:Int} (h:c ≠ 0):errC c = .iface ty_api_Code (.int .i64 c):=by simp [errC,h]
theorem isNil_errC (c:Int):isNil (errC c) = some (decide (c = 0)):=by
 unfold errC;split <;> simp_all [isNil]
theorem ifEq_code (c d:Int):ifEq tt (.iface ty_api_Code (.int .i64 c)) (.iface ty_api_Code (.int .i64 d)) = some (c == d):=by
 have h:(tt ty_api_Code).d = .int .i64:=rfl
 simp [ifEq,h]
theorem ifEq_errC (c d:Int) (hd:d ≠ 0):ifEq tt (errC c) (.iface ty_api_Code (.int .i64 d)) = some (c == d):=by
 unfold errC
 split
 ·rename_i h;subst h;simp [ifEq];omega
 ·exact ifEq_code c d
end Go.Proofs.YtchonnaoojpdoaaGreat
set_option linter.unusedVariables false
set_option linter.unusedSectionVars false
set_option linter.unusedSimpArgs false
namespace Go.Proofs.YtchonnaoojpdoaaGreat
namespace GF
def sum:Nat → (Nat → GF) → GF
 | 0,_ => 0
 | n + 1,f => sum n f + f n
theorem sum_congr {n:Nat} {f g:Nat → GF} (h:∀ i,i < n → f i = g i):sum n f = sum n g:=by
 induction n with
 | zero => rfl
 | succ n ih => rw [sum,sum,ih fun i hi => h i (by omega),h n (by omega)]
theorem sum_zero {n:Nat} {f:Nat → GF} (h:∀ i,i < n → f i = 0):sum n f = 0:=by
 induction n with
 | zero => rfl
 | succ n ih => rw [sum,ih fun i hi => h i (by omega),h n (by omega),add_zero]
theorem sum_add (n:Nat) (f g:Nat → GF):sum n (fun i => f i + g i) = sum n f + sum n g:=by
 induction n with
 | zero => exact (add_zero 0).symm
 | succ n ih => simp only [sum,ih,add_assoc,add_left_comm]
theorem sum_mul (n:Nat) (f:Nat → GF) (c:GF):sum n (fun i => f i * c) = sum n f * c:=by
 induction n with
 | zero => exact (zero_mul c).symm
 | succ n ih => simp only [sum,ih,add_mul]
theorem sum_one {n i0:Nat} {f:Nat → GF} (hi:i0 < n) (h:∀ i,i < n → i ≠ i0 → f i = 0):sum n f = f i0:=by
 induction n with
 | zero => omega
 | succ n ih =>
  rw [sum]
  by_cases h1:i0 = n
  ·subst h1
   rw [sum_zero fun i hi => h i (by omega) (by omega),zero_add]
  ·rw [ih (by omega) fun i hi => h i (by omega),h n (by omega) (by omega),add_zero]
def syn (w:Nat → GF) (j:Nat):GF:=sum 64 fun i => w i * pw (j * (63 - i))
theorem syn_congr {u w:Nat → GF} (h:∀ i,i < 64 → u i = w i) (j:Nat):syn u j = syn w j:=sum_congr fun i hi => by rw [h i hi]
theorem syn_add (u w:Nat → GF) (j:Nat):syn (fun i => u i + w i) j = syn u j + syn w j:=by
 unfold syn;rw [← sum_add];exact sum_congr fun i _ => add_mul _ _ _
def wt (e:Nat → GF):Nat → Nat
 | 0 => 0
 | n + 1 => wt e n + if e n = 0 then 0 else 1
theorem wt_zero {e:Nat → GF}:∀ {n:Nat},wt e n = 0 → ∀ i,i < n → e i = 0
 | n + 1,h,i,hi => by
  rw [wt] at h
  by_cases h1:i = n
  ·subst h1
   split at h
   ·assumption
   ·omega
  ·exact wt_zero (n:=n) (by omega) i (by omega)
theorem wt_le {e e':Nat → GF}:∀ {n:Nat},(∀ i,i < n → e i = 0 → e' i = 0) → wt e' n ≤ wt e n
 | 0,_ => Nat.le_refl _
 | n + 1,h => by
  have h1:=wt_le (n:=n) fun i hi => h i (by omega)
  have h2:=h n (by omega)
  rw [wt,wt]
  split
  ·split <;> omega
  ·split
   ·rename_i h3 h4;exact absurd (h2 h4) h3
   ·omega
theorem wt_lt {e e':Nat → GF} {i0:Nat}:∀ {n:Nat},(∀ i,i < n → e i = 0 → e' i = 0) → i0 < n → e i0 ≠ 0 → e' i0 = 0 → wt e' n < wt e n
 | n + 1,h,hi,h0,h1 => by
  rw [wt,wt]
  by_cases h2:i0 = n
  ·subst h2
   have:=wt_le (n:=i0) fun i hi => h i (by omega)
   rw [if_pos h1,if_neg h0];omega
  ·have:=wt_lt (n:=n) (fun i hi => h i (by omega)) (by omega) h0 h1
   have h3:=h n (by omega)
   split
   ·split <;> omega
   ·split
    ·rename_i h4 h5;exact absurd (h3 h5) h4
    ·omega
theorem wt_congr {e e':Nat → GF} {n:Nat} (h:∀ i,i < n → e i = e' i):wt e n = wt e' n:=by
 induction n with
 | zero => rfl
 | succ n ih => rw [wt,wt,ih fun i hi => h i (by omega),h n (by omega)]
theorem wt_add (u w:Nat → GF) (n:Nat):wt (fun i => u i + w i) n ≤ wt u n + wt w n:=by
 induction n with
 | zero => exact Nat.le_refl _
 | succ n ih =>
  simp only [wt]
  by_cases h3:u n + w n = 0
  ·simp only [h3,if_true];split <;> split <;> omega
  ·simp only [h3,if_false]
   by_cases h1:u n = 0
   ·have h2:w n ≠ 0:=fun h => h3 (by rw [h1,h,add_zero])
    simp only [h1,h2,if_true,if_false];omega
   ·simp only [h1,if_false];split <;> omega
theorem wt_one {e:Nat → GF}:∀ {n:Nat},wt e n = 1 → ∃ i0,i0 < n ∧ e i0 ≠ 0 ∧ ∀ i,i < n → i ≠ i0 → e i = 0
 | n + 1,h => by
  rw [wt] at h
  by_cases h0:e n = 0
  ·rw [if_pos h0] at h
   obtain ⟨i0,h1,h2,h3⟩:=wt_one (n:=n) (by omega)
   refine ⟨i0,by omega,h2,fun i hi hne => ?_⟩
   by_cases h4:i = n
   ·rw [h4];exact h0
   ·exact h3 i (by omega) hne
  ·rw [if_neg h0] at h
   exact ⟨n,by omega,h0,fun i hi hne => wt_zero (n:=n) (by omega) i (by omega)⟩
theorem wt_two {e:Nat → GF}:∀ {n:Nat},wt e n = 2 → ∃ i0 i1,i0 < i1 ∧ i1 < n ∧ e i0 ≠ 0 ∧ e i1 ≠ 0 ∧ ∀ i,i < n → i ≠ i0 → i ≠ i1 → e i = 0
 | n + 1,h => by
  rw [wt] at h
  by_cases h0:e n = 0
  ·rw [if_pos h0] at h
   obtain ⟨i0,i1,h1,h2,h3,h4,h5⟩:=wt_two (n:=n) (by omega)
   refine ⟨i0,i1,h1,by omega,h3,h4,fun i hi ha hb => ?_⟩
   by_cases h6:i = n
   ·rw [h6];exact h0
   ·exact h5 i (by omega) ha hb
  ·rw [if_neg h0] at h
   obtain ⟨i0,h1,h2,h3⟩:=wt_one (e:=e) (n:=n) (by omega)
   exact ⟨i0,n,h1,by omega,h2,h0,fun i hi ha hb => h3 i (by omega) ha⟩
theorem vander:∀ (n:Nat) (e:Nat → GF),wt e 64 ≤ n → (∀ j,j < n → syn e j = 0) → ∀ i,i < 64 → e i = 0
 | 0,e,h,_ => fun i hi => wt_zero (n:=64) (by omega) i hi
 | n + 1,e,h,hs => by
  by_cases hz:∀ i,i < 64 → e i = 0
  ·exact hz
  ·exfalso
   simp only [Classical.not_forall] at hz
   obtain ⟨i0,hi0,he0⟩:=hz
   let e':Nat → GF:=fun i => e i * (pw (63 - i) + pw (63 - i0))
   have hw:wt e' 64 < wt e 64:=wt_lt (fun i _ h0 => by show e i * _ = 0;rw [h0,zero_mul]) hi0 he0 (by show e i0 * _ = 0;rw [add_self,mul_zero])
   have hsyn:∀ j,syn e' j = syn e (j + 1) + syn e j * pw (63 - i0):=by
    intro j
    unfold syn
    rw [← sum_mul,← sum_add]
    refine sum_congr fun i hi => ?_
    show e i * (pw (63 - i) + pw (63 - i0)) * pw (j * (63 - i)) = _
    rw [Nat.succ_mul,← pw_pw]
    simp only [mul_add,add_mul,mul_assoc,mul_comm,mul_left_comm]
   have h0:=vander n e' (show wt e' 64 ≤ n by omega) fun j hj => by rw [hsyn,hs (j + 1) (by omega),hs j (by omega),zero_mul,add_zero]
   have h1:∀ i,i < 64 → i ≠ i0 → e i = 0:=by
    intro i hi hne
    rcases mul_eq_zero (h0 i hi) with h1 | h1
    ·exact h1
    ·exfalso
     have:=pw_inj (i:=63 - i) (j:=63 - i0) (by omega) (by omega) (add_eq_zero.1 h1)
     omega
   have h2:=hs 0 (by omega)
   unfold syn at h2
   rw [sum_one hi0 fun i hi hne => by rw [h1 i hi hne,zero_mul],Nat.zero_mul,pw_zero,mul_one] at h2
   exact he0 h2
def Code (c:Nat → GF):Prop:=∀ j,j < 6 → syn c j = 0
def df (u w:Nat → GF):Nat:=wt (fun i => u i + w i) 64
theorem df_comm (u w:Nat → GF):df u w = df w u:=wt_congr fun i _ => add_comm _ _
theorem df_tri (u w x:Nat → GF):df u x ≤ df u w + df w x:=by
 unfold df
 refine Nat.le_trans (Nat.le_of_eq (wt_congr fun i _ => ?_)) (wt_add _ _ _)
 show u i + x i = u i + w i + (w i + x i)
 rw [add_assoc,add_cancel]
theorem df_zero {u w:Nat → GF} (h:df u w = 0):∀ i,i < 64 → u i = w i:=fun i hi => add_eq_zero.1 (wt_zero h i hi)
theorem df_self {u w:Nat → GF} (h:∀ i,i < 64 → u i = w i):df u w = 0:=by
 have:∀ n,n ≤ 64 → wt (fun i => u i + w i) n = 0:=by
  intro n
  induction n with
  | zero => exact fun _ => rfl
  | succ n ih => intro hn;rw [wt,ih (by omega),if_pos (by show u n + w n = 0;rw [h n (by omega),add_self])]
 exact this 64 (Nat.le_refl _)
theorem Code.add {u w:Nat → GF} (h:Code u) (h':Code w):Code fun i => u i + w i:=fun j hj => by rw [syn_add,h j hj,h' j hj,add_zero]
theorem Code.congr {u w:Nat → GF} (h:Code u) (e:∀ i,i < 64 → w i = u i):Code w:=fun j hj => by rw [syn_congr e,h j hj]
theorem Code.near {u w:Nat → GF} (h:Code u) (h':Code w) (hd:df u w ≤ 6):∀ i,i < 64 → u i = w i:=fun i hi => add_eq_zero.1 (vander 6 _ hd (h.add h') i hi)
def hor (w:Nat → GF) (x:GF):Nat → GF
 | 0 => 0
 | n + 1 => hor w x n * x + w n
theorem hor_congr {u w:Nat → GF} {x:GF} {n:Nat} (h:∀ i,i < n → u i = w i):hor u x n = hor w x n:=by
 induction n with
 | zero => rfl
 | succ n ih => rw [hor,hor,ih fun i hi => h i (by omega),h n (by omega)]
theorem hor_sum (w:Nat → GF) (j:Nat):∀ n,hor w (pw j) n = sum n fun i => w i * pw (j * (n - 1 - i))
 | 0 => rfl
 | n + 1 => by
  rw [hor,hor_sum w j n,← sum_mul,sum]
  congr 1
  ·refine sum_congr fun i hi => ?_
   rw [mul_assoc,pw_pw,← Nat.mul_succ,show (n - 1 - i).succ = n + 1 - 1 - i by omega]
  ·rw [show n + 1 - 1 - n = 0 by omega,Nat.mul_zero,pw_zero,mul_one]
theorem syn_hor (w:Nat → GF) (j:Nat):hor w (pw j) 64 = syn w j:=hor_sum w j 64
def lstep (g:Nat → GF) (r:Nat → GF) (m:GF):Nat → GF:=fun k => (if k < 5 then r (k + 1) else 0) + (r 0 + m) * g k
def rest (g m:Nat → GF):Nat → Nat → GF
 | 0 => fun _ => 0
 | n + 1 => lstep g (rest g m n) (m n)
def cw (g m:Nat → GF):Nat → GF:=fun i => if i < 58 then m i else rest g m 58 (i - 58)
theorem hor6 (r:Nat → GF) (x:GF):hor r x 6 = r 0 * (x * (x * (x * (x * x)))) + (r 1 * (x * (x * (x * x))) + (r 2 * (x * (x * x)) + (r 3 * (x * x) + (r 4 * x + r 5)))):=by
 simp only [hor,zero_mul,zero_add,add_mul,mul_assoc,add_assoc]
theorem hor_lin (a g:Nat → GF) (t x:GF) (n:Nat):hor (fun k => a k + t * g k) x n = hor a x n + t * hor g x n:=by
 induction n with
 | zero => show (0:GF) = 0 + t * 0;rw [mul_zero,add_zero]
 | succ n ih => simp only [hor,ih,add_mul,mul_add,mul_assoc,add_assoc,add_left_comm]
theorem rest_hor {g:Nat → GF} {x:GF} (hg:hor g x 6 = x * (x * (x * (x * (x * x))))) (m:Nat → GF):∀ n,hor m x n * (x * (x * (x * (x * (x * x))))) = hor (rest g m n) x 6
 | 0 => by
  show 0 * _ = _
  rw [zero_mul,hor6]
  simp only [rest,zero_mul,add_zero]
 | n + 1 => by
  have ih:=rest_hor hg m n
  rw [hor,add_mul,mul_assoc,mul_comm x,← mul_assoc,ih]
  rw [show ∀ a:GF,a * (x * (x * (x * (x * (x * x))))) = a * hor g x 6 from fun a => by rw [hg]]
  rw [rest]
  generalize rest g m n = r
  have e:hor r x 6 * x = r 0 * hor g x 6 + hor (fun k => if k < 5 then r (k + 1) else 0) x 6:=by
   rw [hg,hor6,hor6]
   simp only [show (0:Nat) < 5 from by omega,show (1:Nat) < 5 from by omega,show (2:Nat) < 5 from by omega,show (3:Nat) < 5 from by omega,show (4:Nat) < 5 from by omega,show ¬ (5:Nat) < 5 from by omega,if_true,if_false,Nat.zero_add,Nat.reduceAdd,add_zero,add_mul,mul_assoc]
  have e2:hor (lstep g r (m n)) x 6 = hor (fun k => if k < 5 then r (k + 1) else 0) x 6 + (r 0 + m n) * hor g x 6:=hor_lin _ _ _ _ _
  rw [e,e2,add_mul]
  generalize hor g x 6 = G
  generalize hor (fun k => if k < 5 then r (k + 1) else 0) x 6 = S
  simp only [add_assoc,add_comm,add_left_comm]
theorem hor_tail (g m:Nat → GF) (x:GF):hor (cw g m) x 64 = hor m x 58 * (x * (x * (x * (x * (x * x))))) + hor (rest g m 58) x 6:=by
 have e:hor (cw g m) x 58 = hor m x 58:=hor_congr fun i hi => by unfold cw;rw [if_pos hi]
 have c:∀ k,k < 6 → cw g m (58 + k) = rest g m 58 k:=fun k hk => by unfold cw;rw [if_neg (by omega),show 58 + k - 58 = k by omega]
 show ((((((hor (cw g m) x 58 * x + cw g m (58 + 0)) * x + cw g m (58 + 1)) * x + cw g m (58 + 2)) * x + cw g m (58 + 3)) * x + cw g m (58 + 4)) * x + cw g m (58 + 5)) = _
 rw [e,c 0 (by omega),c 1 (by omega),c 2 (by omega),c 3 (by omega),c 4 (by omega),c 5 (by omega),hor6]
 simp only [add_mul,mul_assoc,add_assoc]
def Gen (g:Nat → GF):Prop:=∀ j,j < 6 → hor g (pw j) 6 = pw j * (pw j * (pw j * (pw j * (pw j * pw j))))
theorem cw_code {g:Nat → GF} (hg:Gen g) (m:Nat → GF):Code (cw g m):=fun j hj => by
 rw [← syn_hor,hor_tail,rest_hor (hg j hj),add_self]
theorem cw_congr {g m m':Nat → GF} (h:∀ i,i < 58 → m i = m' i):∀ i,cw g m i = cw g m' i:=by
 have h1:∀ n,n ≤ 58 → rest g m n = rest g m' n:=by
  intro n
  induction n with
  | zero => exact fun _ => rfl
  | succ n ih => intro hn;rw [rest,rest,ih (by omega),h n (by omega)]
 intro i
 unfold cw
 rw [h1 58 (Nat.le_refl _)]
 split
 ·exact h i (by assumption)
 ·rfl
end GF
end Go.Proofs.YtchonnaoojpdoaaGreat
set_option linter.unusedVariables false
set_option linter.unusedSectionVars false
set_option linter.unusedSimpArgs false
namespace Go.Proofs.YtchonnaoojpdoaaGreat
namespace GF
def flip (w:Nat → GF) (i:Nat) (e:GF):Nat → GF:=fun k => if k = i then w k + e else w k
theorem syn_flip (w:Nat → GF) {i:Nat} (hi:i < 64) (e:GF) (j:Nat):syn (flip w i e) j = syn w j + e * pw (j * (63 - i)):=by
 have h:syn (flip w i e) j = syn (fun k => w k + (if k = i then e else 0)) j:=syn_congr (fun k _ => by unfold flip;split;rfl;rw [add_zero]) j
 rw [h,syn_add]
 congr 1
 unfold syn
 rw [sum_one hi fun k _ hk => by show (if k = i then e else 0) * _ = 0;rw [if_neg hk,zero_mul]]
 show (if i = i then e else 0) * _ = _
 rw [if_pos rfl]
theorem wt_single {e:Nat → GF} {i0:Nat}:∀ {n:Nat},i0 < n → e i0 ≠ 0 → (∀ i,i < n → i ≠ i0 → e i = 0) → wt e n = 1
 | n + 1,hi,h0,h => by
  rw [wt]
  by_cases h1:i0 = n
  ·subst h1
   have:wt e i0 = 0:=Nat.le_zero.1 (Nat.le_trans (wt_le (e:=fun _ => 0) fun i hi _ => h i (by omega) (by omega)) (by
    have:∀ n,wt (fun _ => (0:GF)) n = 0:=fun n => by
     induction n with
     | zero => rfl
     | succ n ih => rw [wt,ih,if_pos rfl]
    rw [this];exact Nat.le_refl _))
   rw [this,if_neg h0]
  ·rw [wt_single (n:=n) (by omega) h0 fun i hi => h i (by omega),if_pos (h n (by omega) (by omega))]
theorem wt_pair {e:Nat → GF} {i0 i1:Nat}:∀ {n:Nat},i0 < i1 → i1 < n → e i0 ≠ 0 → e i1 ≠ 0 → (∀ i,i < n → i ≠ i0 → i ≠ i1 → e i = 0) → wt e n = 2
 | n + 1,hlt,hi,h0,h1,h => by
  rw [wt]
  by_cases h2:i1 = n
  ·subst h2
   rw [wt_single (n:=i1) hlt h0 fun i hi hne => h i (by omega) hne (by omega),if_neg h1]
  ·rw [wt_pair (n:=n) hlt (by omega) h0 h1 fun i hi => h i (by omega),if_pos (h n (by omega) (by omega) (by omega))]
theorem df_flip (w:Nat → GF) {i:Nat} (hi:i < 64) {e:GF} (he:e ≠ 0):df w (flip w i e) = 1:=by
 refine wt_single (i0:=i) hi ?_ fun k _ hk => ?_
 ·show w i + flip w i e i ≠ 0
  unfold flip;rw [if_pos rfl,add_cancel];exact he
 ·show w k + flip w i e k = 0
  unfold flip;rw [if_neg hk,add_self]
theorem df_flip2 (w:Nat → GF) {i k:Nat} (hi:i < 64) (hk:k < 64) (hne:i ≠ k) {e f:GF} (he:e ≠ 0) (hf:f ≠ 0):df w (flip (flip w i e) k f) = 2:=by
 have v1:w i + flip (flip w i e) k f i ≠ 0:=by unfold flip;rw [if_neg hne,if_pos rfl,add_cancel];exact he
 have v2:w k + flip (flip w i e) k f k ≠ 0:=by unfold flip;rw [if_pos rfl,if_neg (Ne.symm hne),add_cancel];exact hf
 have v3:∀ j,j < 64 → j ≠ i → j ≠ k → w j + flip (flip w i e) k f j = 0:=fun j _ h1 h2 => by unfold flip;rw [if_neg h2,if_neg h1,add_self]
 rcases Nat.lt_or_gt_of_ne hne with h | h
 ·exact wt_pair h hk v1 v2 v3
 ·exact wt_pair h hi v2 v1 fun j hj h1 h2 => v3 j hj h2 h1
def oneOk (s:Nat → GF):Prop:=s 0 ≠ 0 ∧ s 1 ≠ 0 ∧ (∀ j,1 ≤ j → j < 6 → s (j - 1) * div (s 1) (s 0) = s j) ∧ lg (div (s 1) (s 0)) < 64
def det (s:Nat → GF):GF:=s 1 * s 1 + s 0 * s 2
def cA (s:Nat → GF):GF:=div (s 1 * s 2 + s 0 * s 3) (det s)
def cB (s:Nat → GF):GF:=div (s 2 * s 2 + s 1 * s 3) (det s)
def isRoot (a b:GF) (k:Nat):Bool:=decide (pw k * pw k + a * pw k + b = 0)
def roots (a b:GF) (n:Nat):List Nat:=(List.range n).filter (isRoot a b)
def part (s:Nat → GF) (k0 k1:Nat):GF:=div (s 1 + s 0 * pw k1) (pw k0 + pw k1)
def two (s:Nat → GF):Option (Nat × Nat × GF) :=
 if det s = 0 then none else match roots (cA s) (cB s) 64 with
  | [k0,k1] => if part s k0 k1 = 0 ∨ part s k0 k1 = s 0 then none else some (k0,k1,part s k0 k1)
  | _ => none
open Classical in
noncomputable def fix (w:Nat → GF):Option ((Nat → GF) × Nat) :=
 if oneOk (syn w) then some (flip w (63 - lg (div (syn w 1) (syn w 0))) (syn w 0),1) else match two (syn w) with
  | some (k0,k1,e) => some (flip (flip w (63 - k0) e) (63 - k1) (e + syn w 0),2)
  | none => none
open Classical in
noncomputable def dec (w:Nat → GF):Option ((Nat → GF) × Nat) :=
 if Code w then some (w,0) else match fix w with
  | some (c,n) => if Code c then some (c,n) else none
  | none => none
theorem roots_mem {a b:GF} {n k:Nat}:k ∈ roots a b n ↔ k < n ∧ isRoot a b k = true:=by unfold roots;rw [List.mem_filter,List.mem_range]
theorem roots_nodup (a b:GF) (n:Nat):(roots a b n).Nodup:=by unfold roots;exact List.nodup_range.sublist List.filter_sublist
theorem two_some {s:Nat → GF} {k0 k1:Nat} {e:GF} (h:two s = some (k0,k1,e)):k0 < 64 ∧ k1 < 64 ∧ k0 ≠ k1 ∧ e ≠ 0 ∧ e ≠ s 0:=by
 unfold two at h
 split at h
 ·cases h
 ·split at h
  ·rename_i a b hr
   split at h
   ·cases h
   ·rename_i hne
    simp only [Option.some.injEq,Prod.mk.injEq] at h
    obtain ⟨rfl,rfl,rfl⟩:=h
    have h0:a ∈ roots (cA s) (cB s) 64:=by rw [hr];simp
    have h1:b ∈ roots (cA s) (cB s) 64:=by rw [hr];simp
    have hn:=roots_nodup (cA s) (cB s) 64
    rw [hr] at hn
    refine ⟨(roots_mem.1 h0).1,(roots_mem.1 h1).1,fun he => ?_,fun he => hne (.inl he),fun he => hne (.inr he)⟩
    subst he;simp at hn
  ·cases h
theorem fix_some {w c:Nat → GF} {n:Nat} (h:fix w = some (c,n)):df w c = n ∧ n ≤ 2:=by
 unfold fix at h
 split at h
 ·rename_i ho
  simp only [Option.some.injEq,Prod.mk.injEq] at h
  obtain ⟨rfl,rfl⟩:=h
  exact ⟨df_flip w (by omega) ho.1,by omega⟩
 ·split at h
  ·rename_i k0 k1 e ht
   simp only [Option.some.injEq,Prod.mk.injEq] at h
   obtain ⟨rfl,rfl⟩:=h
   obtain ⟨h0,h1,h2,h3,h4⟩:=two_some ht
   exact ⟨df_flip2 w (by omega) (by omega) (by omega) h3 (fun h5 => h4 (add_eq_zero.1 h5)),by omega⟩
  ·cases h
theorem one_pow {s:Nat → GF} (h:oneOk s):∀ j,j < 6 → s j = s 0 * pw (j * lg (div (s 1) (s 0))):=by
 obtain ⟨h0,h1,h2,h3⟩:=h
 have hx:div (s 1) (s 0) ≠ 0:=fun h => by
  have:=div_mul (a:=s 1) h0
  rw [h,zero_mul] at this
  exact h1 this.symm
 intro j
 induction j with
 | zero => intro _;rw [Nat.zero_mul,pw_zero,mul_one]
 | succ j ih =>
  intro hj
  rw [← h2 (j + 1) (by omega) hj,show j + 1 - 1 = j by omega,ih (by omega),Nat.succ_mul,← pw_pw,pw_lg hx,mul_assoc]
theorem one_code {w:Nat → GF} (h:oneOk (syn w)):Code (flip w (63 - lg (div (syn w 1) (syn w 0))) (syn w 0)):=by
 intro j hj
 have h3:=h.2.2.2
 rw [syn_flip w (by omega),show 63 - (63 - lg (div (syn w 1) (syn w 0))) = lg (div (syn w 1) (syn w 0)) by omega,← one_pow h j hj,add_self]
theorem syn_two {e:Nat → GF} {i0 i1:Nat} (hlt:i0 < i1) (hi:i1 < 64) (h:∀ i,i < 64 → i ≠ i0 → i ≠ i1 → e i = 0) (j:Nat):syn e j = e i0 * pw (j * (63 - i0)) + e i1 * pw (j * (63 - i1)):=by
 have h1:syn e j = syn (fun i => (if i = i0 then e i else 0) + (if i = i1 then e i else 0)) j:=syn_congr (fun i hi => by
  by_cases h0:i = i0
  ·subst h0;rw [if_pos rfl,if_neg (by omega),add_zero]
  ·by_cases h2:i = i1
   ·subst h2;rw [if_neg h0,if_pos rfl,zero_add]
   ·rw [if_neg h0,if_neg h2,h i hi h0 h2,add_zero]) j
 rw [h1,syn_add]
 unfold syn
 rw [sum_one (i0:=i0) (by omega) fun i _ hne => by show (if i = i0 then e i else 0) * _ = 0;rw [if_neg hne,zero_mul],sum_one (i0:=i1) hi fun i _ hne => by show (if i = i1 then e i else 0) * _ = 0;rw [if_neg hne,zero_mul]]
 show (if i0 = i0 then e i0 else 0) * _ + (if i1 = i1 then e i1 else 0) * _ = _
 rw [if_pos rfl,if_pos rfl]
theorem two_is {s:Nat → GF} {E F:GF} {k l:Nat} (hk:k < 64) (hl:l < 64) (hne:k ≠ l) (hE:E ≠ 0) (hF:F ≠ 0) (hs:∀ j,j < 6 → s j = E * pw (j * k) + F * pw (j * l)) :
 two s = some (k,l,E) ∨ two s = some (l,k,F):=by
 have hX:pw k + pw l ≠ 0:=fun h => hne (pw_inj (by omega) (by omega) (add_eq_zero.1 h))
 generalize hx:pw k = X at hX
 generalize hy:pw l = Y at hX
 have p2:∀ n:Nat,pw (2 * n) = pw n * pw n:=fun n => by rw [pw_pw,Nat.two_mul]
 have p3:∀ n:Nat,pw (3 * n) = pw n * (pw n * pw n):=fun n => by rw [pw_pw,pw_pw];congr 1;omega
 have s0:s 0 = E + F:=by rw [hs 0 (by omega),Nat.zero_mul,Nat.zero_mul,pw_zero,mul_one,mul_one]
 have s1:s 1 = E * X + F * Y:=by rw [hs 1 (by omega),Nat.one_mul,Nat.one_mul,hx,hy]
 have s2:s 2 = E * (X * X) + F * (Y * Y):=by rw [hs 2 (by omega),p2,p2,hx,hy]
 have s3:s 3 = E * (X * (X * X)) + F * (Y * (Y * Y)):=by rw [hs 3 (by omega),p3,p3,hx,hy]
 have hdet:det s = E * F * ((X + Y) * (X + Y)):=by
  unfold det
  rw [s0,s1,s2]
  simp only [mul_add,add_mul,mul_assoc,mul_comm,mul_left_comm,add_assoc,add_comm,add_left_comm,add_self,add_cancel,add_zero,zero_add]
 have hd:det s ≠ 0:=by rw [hdet];exact mul_ne (mul_ne hE hF) (mul_ne hX hX)
 have ha:cA s = X + Y:=by
  unfold cA
  rw [show s 1 * s 2 + s 0 * s 3 = (X + Y) * det s by
   rw [hdet,s0,s1,s2,s3]
   simp only [mul_add,add_mul,mul_assoc,mul_comm,mul_left_comm,add_assoc,add_comm,add_left_comm,add_self,add_cancel,add_zero,zero_add],mul_div hd]
 have hb:cB s = X * Y:=by
  unfold cB
  rw [show s 2 * s 2 + s 1 * s 3 = (X * Y) * det s by
   rw [hdet,s1,s2,s3]
   simp only [mul_add,add_mul,mul_assoc,mul_comm,mul_left_comm,add_assoc,add_comm,add_left_comm,add_self,add_cancel,add_zero,zero_add],mul_div hd]
 have hroot:∀ n,n < 64 → (isRoot (X + Y) (X * Y) n = true ↔ n = k ∨ n = l):=by
  intro n hn
  unfold isRoot
  rw [decide_eq_true_eq,show pw n * pw n + (X + Y) * pw n + X * Y = (pw n + X) * (pw n + Y) by
   generalize pw n = Z
   simp only [mul_add,add_mul,mul_assoc,mul_comm,mul_left_comm,add_assoc,add_comm,add_left_comm]]
  constructor
  ·intro h
   rcases mul_eq_zero h with h | h
   ·exact .inl (pw_inj (by omega) (by omega) (by rw [hx];exact add_eq_zero.1 h))
   ·exact .inr (pw_inj (by omega) (by omega) (by rw [hy];exact add_eq_zero.1 h))
  ·rintro (rfl | rfl)
   ·rw [hx,add_self,zero_mul]
   ·rw [hy,add_self,mul_zero]
 have hperm:(roots (X + Y) (X * Y) 64).Perm [k,l]:=by
  refine (List.perm_ext_iff_of_nodup (roots_nodup _ _ _) (by simp [hne])).2 fun n => ?_
  rw [roots_mem]
  simp only [List.mem_cons,List.not_mem_nil,or_false]
  constructor
  ·rintro ⟨h1,h2⟩;exact (hroot n h1).1 h2
  ·intro h
   have hn:n < 64:=by rcases h with rfl | rfl <;> assumption
   exact ⟨hn,(hroot n hn).2 h⟩
 have hpart:∀ {A B:GF} {Z V:GF},Z + V ≠ 0 → div (A * Z + B * V + (A + B) * V) (Z + V) = A:=by
  intro A B Z V h
  rw [show A * Z + B * V + (A + B) * V = A * (Z + V) by
   simp only [mul_add,add_mul,mul_assoc,mul_comm,mul_left_comm,add_assoc,add_comm,add_left_comm,add_self,add_cancel,add_zero,zero_add],mul_div h]
 have hlen:=hperm.length_eq
 unfold two
 rw [if_neg hd,ha,hb]
 match hr:roots (X + Y) (X * Y) 64,hlen with
 | [a,b],_ =>
  rw [hr] at hperm
  simp only
  have hm:=(List.perm_ext_iff_of_nodup (by have:=roots_nodup (X + Y) (X * Y) 64;rwa [hr] at this) (by simp [hne])).1 hperm
  have ha:=(hm a).1 (by simp)
  have hb:=(hm b).1 (by simp)
  have hab:a ≠ b:=by
   have:=roots_nodup (X + Y) (X * Y) 64
   rw [hr] at this
   simpa using this
  simp only [List.mem_cons,List.not_mem_nil,or_false] at ha hb
  rcases ha with rfl | rfl
  ·have hb':b = l:=by rcases hb with h | h;exact absurd h.symm hab;exact h
   subst hb'
   left
   have hp:part s a b = E:=by unfold part;rw [s0,s1,hx,hy];exact hpart hX
   rw [hp,s0,if_neg]
   rintro (h | h)
   ·exact hE h
   ·have:=add_eq_zero.2 h
    rw [add_cancel] at this
    exact hF this
  ·have hb':b = k:=by rcases hb with h | h;exact h;exact absurd h.symm hab
   subst hb'
   right
   have hX':Y + X ≠ 0:=by rw [add_comm];exact hX
   have hp:part s a b = F:=by
    unfold part
    rw [s0,s1,hx,hy,add_comm (E * X),add_comm E F];exact hpart hX'
   rw [hp,s0,if_neg]
   rintro (h | h)
   ·exact hF h
   ·have:=add_eq_zero.2 h
    rw [add_comm E F,add_cancel] at this
    exact hE this
open Classical in
theorem dec_spec (w:Nat → GF):(∃ c n,dec w = some (c,n) ∧ Code c ∧ df w c = n ∧ n ≤ 2) ∨ (dec w = none ∧ ∀ c,Code c → 2 < df w c):=by
 by_cases h0:Code w
 ·exact .inl ⟨w,0,by unfold dec;rw [if_pos h0],h0,df_self fun _ _ => rfl,by omega⟩
 ·have e:dec w = match fix w with
   | some (c,n) => if Code c then some (c,n) else none
   | none => none:=by unfold dec;rw [if_neg h0]
  by_cases hd:∃ c n,fix w = some (c,n) ∧ Code c
  ·obtain ⟨c,n,h1,h2⟩:=hd
   obtain ⟨h3,h4⟩:=fix_some h1
   refine .inl ⟨c,n,?_,h2,h3,h4⟩
   rw [e,h1]
   simp only [if_pos h2]
  ·have hno:∀ c n,fix w = some (c,n) → ¬ Code c:=fun c n h1 h2 => hd ⟨c,n,h1,h2⟩
   refine .inr ⟨?_,fun c hc => ?_⟩
   ·rw [e]
    match hf:fix w with
    | some (c,n) => simp only [if_neg (hno c n hf)]
    | none => rfl
   ·apply Classical.byContradiction
    intro hle
    have hle:df w c ≤ 2:=by omega
    have hs:∀ j,j < 6 → syn w j = syn (fun i => w i + c i) j:=fun j hj => by rw [syn_add,hc j hj,add_zero]
    by_cases h1:oneOk (syn w)
    ·exact hno _ _ (by unfold fix;rw [if_pos h1]) (one_code h1)
    ·have hz:df w c ≠ 0:=fun h => h0 (hc.congr (df_zero h))
     by_cases hd1:df w c = 1
     ·obtain ⟨i0,a1,a2,a3⟩:=wt_one hd1
      apply h1
      have hp:∀ j,j < 6 → syn w j = (w i0 + c i0) * pw (j * (63 - i0)):=by
       intro j hj
       rw [hs j hj]
       unfold syn
       rw [sum_one a1 fun i hi hne => by show (w i + c i) * _ = 0;rw [a3 i hi hne,zero_mul]]
      have q0:syn w 0 = w i0 + c i0:=by rw [hp 0 (by omega),Nat.zero_mul,pw_zero,mul_one]
      have q1:syn w 1 = pw (63 - i0) * (w i0 + c i0):=by rw [hp 1 (by omega),Nat.one_mul,mul_comm]
      have q2:div (syn w 1) (syn w 0) = pw (63 - i0):=by rw [q0,q1,mul_div a2]
      refine ⟨by rw [q0];exact a2,by rw [q1];exact mul_ne pw_ne a2,fun j h2 h3 => ?_,by rw [q2,lg_pw (by omega)];omega⟩
      rw [q2,hp (j - 1) (by omega),hp j h3,mul_assoc,pw_pw,← Nat.succ_mul,show (j - 1).succ = j by omega]
     ·obtain ⟨i0,i1,a1,a2,a3,a4,a5⟩:=wt_two (show wt (fun i => w i + c i) 64 = 2 by unfold df at hle hz hd1;omega)
      have ht:=two_is (s:=syn w) (k:=63 - i0) (l:=63 - i1) (by omega) (by omega) (by omega) a3 a4 fun j hj => by rw [hs j hj,syn_two a1 a2 a5]
      have hs0:syn w 0 = (w i0 + c i0) + (w i1 + c i1):=by
       rw [hs 0 (by omega),syn_two a1 a2 a5,Nat.zero_mul,Nat.zero_mul,pw_zero,mul_one,mul_one]
      rcases ht with ht | ht
      ·refine hno (flip (flip w (63 - (63 - i0)) (w i0 + c i0)) (63 - (63 - i1)) (w i0 + c i0 + syn w 0)) 2 (by unfold fix;rw [if_neg h1,ht]) (hc.congr fun i hi => ?_)
       rw [hs0,add_cancel,show 63 - (63 - i0) = i0 by omega,show 63 - (63 - i1) = i1 by omega]
       unfold flip
       by_cases b1:i = i1
       ·subst b1;rw [if_pos rfl,if_neg (by omega),add_cancel]
       ·rw [if_neg b1]
        by_cases b0:i = i0
        ·subst b0;rw [if_pos rfl,add_cancel]
        ·rw [if_neg b0];exact add_eq_zero.1 (a5 i hi b0 b1)
      ·refine hno (flip (flip w (63 - (63 - i1)) (w i1 + c i1)) (63 - (63 - i0)) (w i1 + c i1 + syn w 0)) 2 (by unfold fix;rw [if_neg h1,ht]) (hc.congr fun i hi => ?_)
       rw [hs0,add_comm (w i0 + c i0),add_cancel,show 63 - (63 - i0) = i0 by omega,show 63 - (63 - i1) = i1 by omega]
       unfold flip
       by_cases b1:i = i1
       ·subst b1;rw [if_neg (by omega),if_pos rfl,add_cancel]
       ·by_cases b0:i = i0
        ·subst b0;rw [if_pos rfl,if_neg (by omega),add_cancel]
        ·rw [if_neg b0,if_neg b1];exact add_eq_zero.1 (a5 i hi b0 b1)
end GF
end Go.Proofs.YtchonnaoojpdoaaGreat
set_option linter.unusedVariables false
set_option linter.unusedSectionVars false
set_option linter.unusedSimpArgs false
namespace Go.Proofs.YtchonnaoojpdoaaGreat
open Go.Mx
def eT:Int → Int:=fun i => ((GF.pw i.toNat).v:Int)
def lT:Int → Int:=fun i => if i = 0 then 0 else (GF.lg (GF.of i.toNat):Int)
def fieldC (d s z:Int) (e l:Int → Int):List Value:=[.int .u32 d,.int .i32 s,.int .u32 z] ++ (arr .u8 510 e ++ arr .i64 256 l)
def fldZ:List Value:=fieldC 0 0 0 (fun _ => 0) fun _ => 0
def fldR:List Value:=fieldC 1 0 0 eT lT
theorem fieldC_len {d s z:Int} {e l:Int → Int}:(fieldC d s z e l).length = 769:=by simp [fieldC]
theorem field_zero:(tt ty_field_Field).zero = fldZ:=by
 have e:(tt ty_field_Field).zero = [.int .u32 0,.int .i32 0,.int .u32 0] ++ (repl 510 [.int .u8 0] ++ repl 256 [.int .i64 0]):=by kernel_rfl
 rw [e,repl_int,repl_int];rfl
section
variable {m:Mem} {f:Nat} {d s z:Int} {e l:Int → Int} (h:m[f]? = some (.live (fieldC d s z e l)))
include h
theorem fld_d:ldInt .u32 m ⟨f,0,none⟩ = some d:=ldInt_of h rfl
theorem fld_s:ldInt .i32 m ⟨f,1,none⟩ = some s:=ldInt_of h rfl
theorem fld_std (v:Int):st m ⟨f,0,none⟩ (.int .u32 v) = some (wr m f (fieldC v s z e l)):=by rw [st_wr h (by rw [fieldC_len];omega)];rfl
theorem fld_sts (v:Int):st m ⟨f,1,none⟩ (.int .i32 v) = some (wr m f (fieldC d v z e l)):=by rw [st_wr h (by rw [fieldC_len];omega)];rfl
theorem fld_e {x:Int} (h0:0 ≤ x) (h1:x < 510):ldInt .u8 m ⟨f,3 + x.toNat,none⟩ = some (e x):=ldInt_of h (by
 unfold fieldC
 rw [List.getElem?_append_right (by simp),show 3 + x.toNat - [Value.int .u32 d,.int .i32 s,.int .u32 z].length = x.toNat by simp,List.getElem?_append_left (by rw [arr_length];omega)]
 exact arr_getI h0 (by omega))
theorem fld_l {x:Int} (h0:0 ≤ x) (h1:x < 256):ldInt .i64 m ⟨f,513 + x.toNat,none⟩ = some (l x):=ldInt_of h (by
 unfold fieldC
 rw [List.getElem?_append_right (by simp;omega),show 513 + x.toNat - [Value.int .u32 d,.int .i32 s,.int .u32 z].length = 510 + x.toNat by simp;omega,List.getElem?_append_right (by rw [arr_length];omega),arr_length,Nat.add_sub_cancel_left]
 exact arr_getI h0 (by omega))
theorem fld_ste {x:Int} (h0:0 ≤ x) (h1:x < 510) (v:Int):st m ⟨f,3 + x.toNat,none⟩ (.int .u8 v) = some (wr m f (fieldC d s z (upd e x v) l)):=by
 rw [st_wr h (by rw [fieldC_len];omega)]
 unfold fieldC
 rw [List.set_append_right _ _ (by simp),show 3 + x.toNat - [Value.int .u32 d,.int .i32 s,.int .u32 z].length = x.toNat by simp,List.set_append_left _ _ (by rw [arr_length];omega),arr_set h0]
theorem fld_stl {x:Int} (h0:0 ≤ x) (h1:x < 256) (v:Int):st m ⟨f,513 + x.toNat,none⟩ (.int .i64 v) = some (wr m f (fieldC d s z e (upd l x v))):=by
 rw [st_wr h (by rw [fieldC_len];omega)]
 unfold fieldC
 rw [List.set_append_right _ _ (by simp;omega),show 513 + x.toNat - [Value.int .u32 d,.int .i32 s,.int .u32 z].length = 510 + x.toNat by simp;omega,List.set_append_right _ _ (by rw [arr_length];omega),arr_length,Nat.add_sub_cancel_left,arr_set h0]
end
theorem fieldC_congr {d s z:Int} {e l e' l':Int → Int} (he:∀ i:Int,0 ≤ i → i < 510 → e i = e' i) (hl:∀ i:Int,0 ≤ i → i < 256 → l i = l' i):fieldC d s z e l = fieldC d s z e' l':=by
 unfold fieldC
 rw [arr_congr (n:=510) fun i h0 h1 => he i h0 (by omega),arr_congr (n:=256) fun i h0 h1 => hl i h0 (by omega)]
theorem xt_all:(List.range 256).all (fun n => (if decide (shlI .i64 (n:Int) 1 > 255) then bitI .xor .i64 (shlI .i64 (n:Int) 1) 285 else shlI .i64 (n:Int) 1) == ((GF.xt (GF.of n)).v:Int)) = true:=by decide +kernel
theorem xt_v (a:GF):(if decide (shlI .i64 (a.v:Int) 1 > 255) then bitI .xor .i64 (shlI .i64 (a.v:Int) 1) 285 else shlI .i64 (a.v:Int) 1) = ((GF.xt a).v:Int):=by
 have:=List.all_eq_true.1 xt_all a.v (List.mem_range.2 a.v_lt)
 rw [beq_iff_eq,GF.of_v] at this
 exact this
theorem lT_of {a:GF} (h:a ≠ 0):lT (a.v:Int) = (GF.lg a:Int):=by
 unfold lT
 have:=GF.v_ne h
 rw [if_neg (by omega),Int.toNat_natCast,GF.of_v]
theorem field_make_is (k:Nat) (hk:255 < k) {m:Mem} {f:Nat} {d s z:Int} (h:m[f]? = some (.live (fieldC d s z (fun _ => 0) fun _ => 0))) :
 field_Field_make k (some ⟨f,0,none⟩) m = some (wr m f (fieldC d s z eT lT)):=by
 have key:Ok (field_Field_make k (some ⟨f,0,none⟩) m) fun m' => m' = wr m f (fieldC d s z eT lT):=by
  unfold field_Field_make
  refine field_Field_make_l0_rule k _ (fun r x0 x2 x4 m' => (some ⟨f,0,none⟩:Option Addr) = x0 ∧ ∃ j:Nat,x4 = j ∧ j + r = 255 ∧ ((GF.pw j).v:Int) = x2 ∧ ∃ e l:Int → Int,
   (∀ i:Int,0 ≤ i → (i < j ∨ 255 ≤ i ∧ i < 255 + j) → e i = eT i) ∧ (∀ i:Int,0 ≤ i → i < 256 → (i = 0 ∨ (j:Int) ≤ lT i) ∧ l i = 0 ∨ i ≠ 0 ∧ lT i < j ∧ l i = lT i) ∧ m' = wr m f (fieldC d s z e l)) ?_ k 255 _ _ _ _ (by omega)
   ⟨rfl,0,rfl,by omega,rfl,_,_,fun i h0 h1 => by omega,fun i h0 h1 => .inl ⟨by
    by_cases h2:i = 0
    ·exact .inl h2
    ·right;unfold lT;rw [if_neg h2];omega,rfl⟩,(wr_same h).symm⟩
  rintro r nx _ _ _ _ ⟨rfl,j,rfl,hr,rfl,e,l,he,hl,rfl⟩ hnx
  unfold field_Field_make_l0_b
  by_cases hj:(j:Int) < 255
  ·have h1:=wr_get (cs:=fieldC d s z e l) h
   have hv:=(GF.pw j).v_lt
   have a1:=fld_ste h1 (x:=(j:Int)) (by omega) (by omega) (IntKind.wrap .u8 ((GF.pw j).v:Int))
   rw [wrap_v,wr_wr] at a1
   have h2:=wr_get (cs:=fieldC d s z (upd e j ((GF.pw j).v:Int)) l) h
   have a2:=fld_ste h2 (x:=(j:Int) + 255) (by omega) (by omega) (IntKind.wrap .u8 ((GF.pw j).v:Int))
   rw [wrap_v,wr_wr] at a2
   have h3:=wr_get (cs:=fieldC d s z (upd (upd e j ((GF.pw j).v:Int)) (j + 255) ((GF.pw j).v:Int)) l) h
   have a3:=fld_stl h3 (x:=((GF.pw j).v:Int)) (by omega) (by omega) (j:Int)
   rw [wr_wr] at a3
   have hx:=xt_v (GF.pw j)
   have next:∀ p:Int,p = ((GF.pw (j + 1)).v:Int) → Ok (field_Field_make_j1 k (some ⟨f,0,none⟩) j nx p (wr m f (fieldC d s z (upd (upd e j ((GF.pw j).v:Int)) (j + 255) ((GF.pw j).v:Int)) (upd l ((GF.pw j).v:Int) j)))) fun m' => m' = wr m f (fieldC d s z eT lT):=by
    rintro p rfl
    unfold field_Field_make_j1
    simp (disch:=omega) only [SX,plus]
    refine hnx (r - 1) _ _ _ _ (by omega) ⟨rfl,j + 1,by omega,by omega,rfl,_,_,fun i h0 h1 => ?_,fun i h0 h1 => ?_,rfl⟩
    ·unfold upd
     by_cases c1:i = (j:Int) + 255
     ·rw [if_pos c1]
      unfold eT
      rw [c1,show ((j:Int) + 255).toNat = j + 255 by omega,← GF.pw_mod (j + 255),Nat.add_mod_right,GF.pw_mod]
     ·rw [if_neg c1]
      by_cases c2:i = (j:Int)
      ·rw [if_pos c2];unfold eT;rw [c2,Int.toNat_natCast]
      ·rw [if_neg c2];exact he i h0 (by omega)
    ·have hlp:lT ((GF.pw j).v:Int) = (j:Int):=by rw [lT_of GF.pw_ne,GF.lg_pw (by omega)]
     unfold upd
     by_cases c1:i = ((GF.pw j).v:Int)
     ·right
      have:=GF.v_ne (GF.pw_ne (n:=j))
      rw [if_pos c1,c1,hlp]
      exact ⟨by omega,by omega,rfl⟩
     ·rw [if_neg c1]
      rcases hl i h0 h1 with ⟨b1,b2⟩ | ⟨b1,b2,b3⟩
      ·left
       refine ⟨?_,b2⟩
       rcases b1 with b1 | b1
       ·exact .inl b1
       ·by_cases b3:i = 0
        ·exact .inl b3
        ·right
         have:lT i ≠ (j:Int):=by
          intro h5
          apply c1
          have h6:lT i = (GF.lg (GF.of i.toNat):Int):=by unfold lT;rw [if_neg b3]
          have h7:GF.of i.toNat ≠ 0:=fun h8 => by
           have:=congrArg GF.v h8
           rw [GF.v_of (by omega)] at this
           have h9:GF.v 0 = 0:=rfl
           omega
          have h8:=GF.pw_lg h7
          rw [show GF.lg (GF.of i.toNat) = j by omega] at h8
          rw [h8,GF.v_of (by omega)];omega
         omega
      ·right;exact ⟨b1,by omega,b3⟩
   rw [Int.toNat_natCast] at a1 a3
   simp (disch:=omega) only [SX,plus,wrap_v,a1,a2,a3]
   cases hc:decide (shlI .i64 ((GF.pw j).v:Int) 1 > 255) with
   | true =>
    rw [hc,if_pos rfl,← GF.pw_succ] at hx
    exact next _ hx
   | false =>
    rw [hc,if_neg (by simp),← GF.pw_succ] at hx
    exact next _ hx
  ·have hj2:j = 255:=by omega
   subst hj2
   simp (disch:=omega) only [SX,plus]
   refine .some ?_
   rw [fieldC_congr (e':=eT) (l':=lT) (fun i h0 h1 => he i h0 (by omega)) fun i h0 h1 => ?_]
   rcases hl i h0 h1 with ⟨b1 | b1,b2⟩ | ⟨b1,b2,b3⟩
   ·subst b1;rw [b2];rfl
   ·by_cases b3:i = 0
    ·subst b3;rw [b2];rfl
    ·exfalso
     have h7:GF.of i.toNat ≠ 0:=fun h8 => by
      have:=congrArg GF.v h8
      rw [GF.v_of (by omega)] at this
      have h9:GF.v 0 = 0:=rfl
      omega
     have:=GF.lg_lt h7
     unfold lT at b1
     rw [if_neg b3] at b1
     omega
   ·exact b3
 obtain ⟨m',h1,rfl⟩:=key
 exact h1
theorem once_done (k:Nat) {m:Mem} {f:Nat} (h:m[f]? = some (.live fldR)):sync_Once_Do k (some ⟨f,0,none⟩) (.func (.func 116) ⟨[.pointer (some ⟨f,0,none⟩)]⟩ ⟨[]⟩) m = some m:=by
 unfold sync_Once_Do onceDo
 simp (disch:=omega) only [SX,plus,fld_d h]
theorem once_first (k:Nat) (hk:255 < k) {m:Mem} {f:Nat} (h:m[f]? = some (.live fldZ)):sync_Once_Do k (some ⟨f,0,none⟩) (.func (.func 116) ⟨[.pointer (some ⟨f,0,none⟩)]⟩ ⟨[]⟩) m = some (wr m f fldR):=by
 unfold sync_Once_Do onceDo
 have h1:=wr_get (cs:=fieldC 0 1 0 (fun _ => 0) fun _ => 0) h
 have h2:=wr_get (cs:=fieldC 0 1 0 eT lT) h
 have h3:=wr_get (cs:=fieldC 1 1 0 eT lT) h
 have e1:=field_make_is k hk h1
 rw [wr_wr] at e1
 have e2:=fld_std h2 1
 rw [wr_wr] at e2
 have e3:=fld_sts h3 0
 rw [wr_wr] at e3
 simp (disch:=omega) only [SX,plus,fld_d h,fld_s h,fld_sts h,e1,fld_d h2,fld_s h2,e2,e3]
 rfl
section
variable (k:Nat) {m:Mem} {f:Nat} (h:m[f]? = some (.live fldR))
include h
theorem mul_is (a b:GF):field_Field_Mul k (some ⟨f,0,none⟩) (a.v:Int) (b.v:Int) m = some (((a * b).v:Int),m):=by
 unfold field_Field_Mul
 by_cases ha:a = 0
 ·subst ha
  rw [GF.zero_mul];rfl
 ·by_cases hb:b = 0
  ·subst hb
   have:(((0:GF).v:Int) == 0) = true:=rfl
   rw [GF.mul_zero,this,cond_true]
   cases ((a.v:Int) == 0) <;> rfl
  ·have va:=GF.v_ne ha
   have vb:=GF.v_ne hb
   have la:=GF.lg_lt ha
   have lb:=GF.lg_lt hb
   have ha':=a.v_lt
   have hb':=b.v_lt
   have e1:=fld_l h (x:=(a.v:Int)) (by omega) (by omega)
   have e2:=fld_l h (x:=(b.v:Int)) (by omega) (by omega)
   have e3:=fld_e h (x:=(GF.lg a:Int) + GF.lg b) (by omega) (by omega)
   rw [lT_of ha] at e1
   rw [lT_of hb] at e2
   rw [Int.toNat_natCast] at e1 e2
   have e4:eT ((GF.lg a:Int) + GF.lg b) = ((a * b).v:Int):=by
    unfold eT
    rw [show ((GF.lg a:Int) + GF.lg b).toNat = GF.lg a + GF.lg b by omega,← GF.mul_lg ha hb]
   rw [e4] at e3
   simp (disch:=omega) only [SX,plus,once_done k h,e1,e2,e3]
theorem inv_is {a:GF} (ha:a ≠ 0):field_Field_Inv k (some ⟨f,0,none⟩) (a.v:Int) m = some (((GF.inv a).v:Int),.nilIface,m):=by
 unfold field_Field_Inv
 have va:=GF.v_ne ha
 have la:=GF.lg_lt ha
 have ha':=a.v_lt
 have e1:=fld_l h (x:=(a.v:Int)) (by omega) (by omega)
 have e3:=fld_e h (x:=255 - (GF.lg a:Int)) (by omega) (by omega)
 rw [lT_of ha,Int.toNat_natCast] at e1
 have e4:eT (255 - (GF.lg a:Int)) = ((GF.inv a).v:Int):=by
  unfold eT GF.inv
  rw [show (255 - (GF.lg a:Int)).toNat = 255 - GF.lg a by omega]
 rw [e4] at e3
 simp (disch:=omega) only [SX,plus,once_done k h,e1,e3]
theorem div_is (a b:GF):field_Field_Div k (some ⟨f,0,none⟩) (a.v:Int) (b.v:Int) m = some (if b = 0 then (0,errC 4,m) else (((GF.div a b).v:Int),.nilIface,m)):=by
 unfold field_Field_Div
 by_cases hb:b = 0
 ·subst hb
  rw [if_pos rfl]
  have:field_Field_Inv k (some ⟨f,0,none⟩) ((0:GF).v:Int) m = some (0,errC 4,m):=rfl
  simp (disch:=omega) only [SX,plus,this,isNil_errC]
 ·rw [if_neg hb]
  simp (disch:=omega) only [SX,plus,inv_is k h hb,mul_is k h]
  rfl
theorem log_is {a:GF} (ha:a ≠ 0):field_Field_Log k (some ⟨f,0,none⟩) (a.v:Int) m = some ((GF.lg a:Int),.nilIface,m):=by
 unfold field_Field_Log
 have va:=GF.v_ne ha
 have ha':=a.v_lt
 have e1:=fld_l h (x:=(a.v:Int)) (by omega) (by omega)
 rw [lT_of ha,Int.toNat_natCast] at e1
 simp (disch:=omega) only [SX,plus,once_done k h,e1]
theorem exp_is (j:Nat) (hj:j < 1000000):field_Field_Exp k (some ⟨f,0,none⟩) (j:Int) m = some (((GF.pw j).v:Int),m):=by
 unfold field_Field_Exp
 have e3:=fld_e h (x:=(j:Int) % 255 + 255) (by omega) (by omega)
 have e4:eT ((j:Int) % 255 + 255) = ((GF.pw j).v:Int):=by
  unfold eT
  rw [show ((j:Int) % 255 + 255).toNat = j % 255 + 255 by omega,← GF.pw_mod (j % 255 + 255),Nat.add_mod_right,Nat.mod_mod,GF.pw_mod]
 rw [e4] at e3
 simp (disch:=omega) only [SX,plus,once_done k h,e3]
theorem eval_is {a:Option Addr} {n c:Nat} {w:Nat → GF} (hw:Src m a n w) (hn:n < 1000000) (hk:n < k) (x:GF):field_Field_Eval k (some ⟨f,0,none⟩) a n c (x.v:Int) m = some (((GF.hor w x n).v:Int),m):=by
 have key:Ok (field_Field_Eval k (some ⟨f,0,none⟩) a n c (x.v:Int) m) fun r => r = (((GF.hor w x n).v:Int),m):=by
  unfold field_Field_Eval
  refine field_Field_Eval_l0_rule k _ (fun r x0 x2 x7 x10a x10n x10c x11 x12 m' => (some ⟨f,0,none⟩:Option Addr) = x0 ∧ (x.v:Int) = x2 ∧ a = x10a ∧ n = x10n ∧ c = x10c ∧ (n:Int) = x11 ∧ m = m' ∧ ∃ j:Nat,x12 = j ∧ j + r = n ∧ ((GF.hor w x j).v:Int) = x7) ?_ k n _ _ _ _ _ _ _ _ _ hk
   ⟨rfl,rfl,rfl,rfl,rfl,rfl,rfl,0,rfl,by omega,rfl⟩
  rintro r nx _ _ _ _ _ _ _ _ _ ⟨rfl,rfl,rfl,rfl,rfl,rfl,rfl,j,rfl,hr,rfl⟩ hnx
  unfold field_Field_Eval_l0_b
  by_cases hj:(j:Int) < n
  ·obtain ⟨ad,rfl,e1⟩:=hw.ld (i:=j) (by omega)
   unfold plus at e1
   simp (disch:=omega) only [SX,plus,e1,mul_is k h,xor_v]
   exact hnx (r - 1) _ _ _ _ _ _ _ _ _ (by omega) ⟨rfl,rfl,rfl,rfl,rfl,rfl,rfl,j + 1,by omega,by omega,rfl⟩
  ·obtain rfl:j = n:=by omega
   simp (disch:=omega) only [SX,plus]
   exact .some rfl
 obtain ⟨r,h1,rfl⟩:=key
 exact h1
end
theorem exp_first (k:Nat) (hk:255 < k) {m:Mem} {f:Nat} (h:m[f]? = some (.live fldZ)) (j:Nat) (hj:j < 1000000):field_Field_Exp k (some ⟨f,0,none⟩) (j:Int) m = some (((GF.pw j).v:Int),wr m f fldR):=by
 have h1:=exp_is k (wr_get (cs:=fldR) h) j hj
 unfold field_Field_Exp at h1 ⊢
 simp (disch:=omega) only [SX,plus,once_first k hk h]
 simp (disch:=omega) only [SX,plus,once_done k (wr_get (cs:=fldR) h)] at h1
 exact h1
end Go.Proofs.YtchonnaoojpdoaaGreat
set_option linter.unusedVariables false
set_option linter.unusedSectionVars false
set_option linter.unusedSimpArgs false
namespace Go.Proofs.YtchonnaoojpdoaaGreat
open Go.Mx
theorem xorN {a b:Nat} (ha:a < 65536) (hb:b < 65536):bitI .xor .i64 (a:Int) (b:Int) = ((a ^^^ b:Nat):Int):=by
 have h1:BitVec.ofInt 64 (a:Int) = BitVec.ofNat 64 a:=by rw [BitVec.ofInt_natCast]
 have h2:BitVec.ofInt 64 (b:Int) = BitVec.ofNat 64 b:=by rw [BitVec.ofInt_natCast]
 show IntKind.i64.wrap ((BitVec.ofInt 64 (a:Int) ^^^ BitVec.ofInt 64 (b:Int)).toNat:Int) = _
 rw [h1,h2,BitVec.toNat_xor,BitVec.toNat_ofNat,BitVec.toNat_ofNat,Nat.mod_eq_of_lt (by omega),Nat.mod_eq_of_lt (by omega)]
 have:a ^^^ b < 2 ^ 16:=Nat.xor_lt_two_pow (by omega) (by omega)
 exact wrap_i64 (by omega) (by omega)
theorem and1 {a:Nat} (ha:a < 65536):bitI .and .i64 (a:Int) 1 = ((a % 2:Nat):Int):=by
 have h1:BitVec.ofInt 64 (a:Int) = BitVec.ofNat 64 a:=by rw [BitVec.ofInt_natCast]
 have h2:BitVec.ofInt 64 (1:Int) = BitVec.ofNat 64 1:=rfl
 show IntKind.i64.wrap ((BitVec.ofInt 64 (a:Int) &&& BitVec.ofInt 64 (1:Int)).toNat:Int) = _
 rw [h1,h2,BitVec.toNat_and,BitVec.toNat_ofNat,BitVec.toNat_ofNat,Nat.mod_eq_of_lt (by omega),Nat.mod_eq_of_lt (by omega),Nat.and_one_is_mod]
 exact wrap_i64 (by omega) (by omega)
theorem shrN {a i:Nat} (hi:i < 64):shrI .i64 (a:Int) (i:Int) = ((a / 2 ^ i:Nat):Int):=by
 unfold shrI
 rw [Int.toNat_natCast,Nat.min_eq_left (show i ≤ IntKind.bits .i64 from by show i ≤ 64;omega),Int.fdiv_eq_ediv_of_nonneg _ (Int.pow_nonneg (by omega))]
 rw [show ((2:Int) ^ i) = ((2 ^ i:Nat):Int) by rw [Int.natCast_pow];rfl]
 exact (Int.natCast_ediv _ _).symm
theorem shlN {a i:Nat} (hi:i < 64) (h:a * 2 ^ i < 65536):shlI .i64 (a:Int) (i:Int) = ((a * 2 ^ i:Nat):Int):=by
 unfold shlI
 rw [Int.toNat_natCast,Nat.min_eq_left (show i ≤ IntKind.bits .i64 from by show i ≤ 64;omega)]
 rw [show ((2:Int) ^ i) = ((2 ^ i:Nat):Int) by rw [Int.natCast_pow];rfl,← Int.natCast_mul]
 exact wrap_i64 (by omega) (by omega)
def bitN (x i:Nat):Bool:=x / 2 ^ i % 2 == 1
theorem bitN_test (x i:Nat):bitN x i = x.testBit i:=by
 unfold bitN
 rw [Nat.testBit_eq_decide_div_mod_eq]
 by_cases h:x / 2 ^ i % 2 = 1
 ·rw [h];rfl
 ·rw [decide_eq_false h];exact beq_eq_false_iff_ne.2 h
def shs (a b:Nat):Nat → Nat
 | 0 => 0
 | n + 1 => if bitN b n then shs a b n ^^^ (a * 2 ^ n) else shs a b n
def red:Nat → Nat → Nat
 | 0,s => s
 | n + 1,s => if bitN (red n s) (14 - n) then red n s ^^^ (285 * 2 ^ (14 - n - 8)) else red n s
theorem red_xor (s t:Nat):∀ n,red n (s ^^^ t) = red n s ^^^ red n t
 | 0 => rfl
 | n + 1 => by
  simp only [red,red_xor s t n,bitN_test,Nat.testBit_xor]
  generalize red n s = x
  generalize red n t = y
  generalize 285 * 2 ^ (14 - n - 8) = c
  cases x.testBit (14 - n) <;> cases y.testBit (14 - n) <;> simp only [Bool.xor_self,Bool.false_xor,Bool.xor_false,Bool.false_eq_true,if_true,if_false,Bool.true_xor,Bool.not_false]
  ·rw [Nat.xor_assoc]
  ·rw [Nat.xor_assoc,Nat.xor_assoc,Nat.xor_comm y]
  ·rw [Nat.xor_assoc,← Nat.xor_assoc c y,Nat.xor_comm c y,Nat.xor_assoc y,Nat.xor_self,Nat.xor_zero]
theorem red_zero:∀ n,red n 0 = 0
 | 0 => rfl
 | n + 1 => by
  rw [red,red_zero n]
  have:bitN 0 (14 - n) = false:=by unfold bitN;rw [Nat.zero_div];rfl
  rw [this];rfl
theorem shs_lt {a:Nat} (ha:a < 256) (b:Nat):∀ n,n ≤ 8 → shs a b n < 65536
 | 0,_ => by show 0 < _;omega
 | n + 1,h => by
  have ih:=shs_lt ha b n (by omega)
  rw [shs]
  split
  ·have h1:a * 2 ^ n < 2 ^ 16:=by
    have:2 ^ n ≤ 2 ^ 7:=Nat.pow_le_pow_right (by omega) (by omega)
    have:=Nat.mul_le_mul (show a ≤ 255 by omega) this
    omega
   exact Nat.xor_lt_two_pow (n:=16) (by omega) h1
  ·exact ih
theorem red_lt {s:Nat} (hs:s < 65536):∀ n,n ≤ 7 → red n s < 65536
 | 0,_ => hs
 | n + 1,h => by
  have ih:=red_lt hs n (by omega)
  rw [red]
  split
  ·have h1:285 * 2 ^ (14 - n - 8) < 2 ^ 16:=by
    have:2 ^ (14 - n - 8) ≤ 2 ^ 6:=Nat.pow_le_pow_right (by omega) (by omega)
    have:=Nat.mul_le_mul (show 285 ≤ 285 by omega) this
    omega
   exact Nat.xor_lt_two_pow (n:=16) (by omega) h1
  ·exact ih
theorem sh_all:(List.range 256).all (fun a => (List.range 8).all fun i => red 7 (a * 2 ^ i) == (GF.xts i (GF.of a)).v) = true:=by decide +kernel
theorem sh_is (a:GF) {i:Nat} (hi:i < 8):red 7 (a.v * 2 ^ i) = (GF.xts i a).v:=by
 have:=List.all_eq_true.1 (List.all_eq_true.1 sh_all a.v (List.mem_range.2 a.v_lt)) i (List.mem_range.2 hi)
 rw [beq_iff_eq,GF.of_v] at this
 exact this
def bitsG (b:Nat):Nat → GF
 | 0 => 0
 | n + 1 => if bitN b n then bitsG b n + GF.pw n else bitsG b n
theorem bits_all:(List.range 256).all (fun b => bitsG b 8 == GF.of b) = true:=by decide +kernel
theorem bits_is (b:GF):bitsG b.v 8 = b:=by
 have:=List.all_eq_true.1 bits_all b.v (List.mem_range.2 b.v_lt)
 rw [beq_iff_eq,GF.of_v] at this
 exact this
theorem v_add (a b:GF):(a + b).v = a.v ^^^ b.v:=BitVec.toNat_xor (v:=8) a b
theorem red_shs (a:GF) (b:Nat):∀ n,n ≤ 8 → red 7 (shs a.v b n) = (a * bitsG b n).v
 | 0,_ => by show red 7 0 = (a * 0).v;rw [red_zero,GF.mul_zero];rfl
 | n + 1,h => by
  rw [shs,bitsG]
  split
  ·rw [red_xor,red_shs a b n (by omega),sh_is a (by omega),GF.mul_add,v_add,GF.mul_comm a (GF.pw n),GF.pw_mul]
  ·exact red_shs a b n (by omega)
theorem refMul_is (k:Nat) (hk:1000 < k) (a b:GF) (m:Mem):patinaref01_Mul k (a.v:Int) (b.v:Int) m = some (((a * b).v:Int),m):=by
 have ha:=a.v_lt
 have hb:=b.v_lt
 have key:Ok (patinaref01_Mul k (a.v:Int) (b.v:Int) m) fun r => r = (((a * b).v:Int),m):=by
  unfold patinaref01_Mul
  rw [wrap_i64 (by omega) (by omega)]
  refine patinaref01_Mul_l0_rule k _ (fun r x1 x5 x6 x7 m' => (b.v:Int) = x1 ∧ (a.v:Int) = x5 ∧ m = m' ∧ ∃ i:Nat,x7 = i ∧ i + r = 8 ∧ (shs a.v b.v i:Int) = x6) ?_ k 8 _ _ _ _ _ (by omega) ⟨rfl,rfl,rfl,0,rfl,by omega,rfl⟩
  rintro r nx _ _ _ _ _ ⟨rfl,rfl,rfl,i,rfl,hr,rfl⟩ hnx
  unfold patinaref01_Mul_l0_b
  have hs:=shs_lt ha b.v i (by omega)
  by_cases hi:(i:Int) < 8
  ·have e1:=shrN (a:=b.v) (i:=i) (by omega)
   have e2:=and1 (a:=b.v / 2 ^ i) (by have:=Nat.div_le_self b.v (2 ^ i);omega)
   rw [← e1] at e2
   have hp:a.v * 2 ^ i < 65536:=by
    have:2 ^ i ≤ 2 ^ 7:=Nat.pow_le_pow_right (by omega) (by omega)
    have:=Nat.mul_le_mul (show a.v ≤ 255 by omega) this
    omega
   have e3:=shlN (a:=a.v) (i:=i) (by omega) hp
   have e4:=xorN hs hp
   rw [← e3] at e4
   have next:∀ x:Int,x = (shs a.v b.v (i + 1):Int) → Ok (patinaref01_Mul_j1 k (b.v:Int) (a.v:Int) i nx x m) fun r => r = (((a * b).v:Int),m):=by
    rintro x rfl
    unfold patinaref01_Mul_j1
    simp (disch:=omega) only [SX,plus]
    exact hnx (r - 1) _ _ _ _ _ (by omega) ⟨rfl,rfl,rfl,i + 1,by omega,by omega,rfl⟩
   rw [decide_eq_true hi,cond_true,decide_eq_false (show ¬ (i:Int) < 0 by omega),cond_false,wrap_i64 (by omega) (by omega),e2]
   cases hbit:bitN b.v i with
   | true =>
    have:(((b.v / 2 ^ i % 2:Nat):Int) == 1) = true:=beqI_yes (by unfold bitN at hbit;have:=beq_iff_eq.1 hbit;omega)
    rw [this,cond_true,cond_false]
    exact next _ (by rw [e4,shs,hbit,if_pos rfl])
   | false =>
    have:(((b.v / 2 ^ i % 2:Nat):Int) == 1) = false:=beqI_no (by unfold bitN at hbit;have:=beq_eq_false_iff_ne.1 hbit;omega)
    rw [this,cond_false]
    exact next _ (by rw [shs,hbit,if_neg (by simp)])
  ·obtain rfl:i = 8:=by omega
   rw [decide_eq_false hi,cond_false]
   generalize hS:shs a.v b.v 8 = s at *
   have hfin:red 7 s = (a * b).v:=by rw [← hS,red_shs a b.v 8 (by omega),bits_is]
   refine patinaref01_Mul_l2_rule k _ (fun r x6 x8 m' => m = m' ∧ ∃ n:Nat,x8 = 14 - (n:Int) ∧ n + r = 7 ∧ (red n s:Int) = x6) ?_ k 7 _ _ _ (by omega) ⟨rfl,0,by omega,by omega,rfl⟩
   rintro r' nx' _ _ _ ⟨rfl,n,rfl,hr',rfl⟩ hnx'
   unfold patinaref01_Mul_l2_b
   have hl:=red_lt (s:=s) hs n (by omega)
   by_cases hn:n < 7
   ·have c14:(14:Int) - (n:Int) = ((14 - n:Nat):Int):=by omega
    have c6:(14:Int) - (n:Int) - 8 = ((14 - n - 8:Nat):Int):=by omega
    have e1:=shrN (a:=red n s) (i:=14 - n) (by omega)
    have e2:=and1 (a:=red n s / 2 ^ (14 - n)) (by have:=Nat.div_le_self (red n s) (2 ^ (14 - n));omega)
    rw [← e1] at e2
    have hp:285 * 2 ^ (14 - n - 8) < 65536:=by
     have:2 ^ (14 - n - 8) ≤ 2 ^ 6:=Nat.pow_le_pow_right (by omega) (by omega)
     have:=Nat.mul_le_mul (show 285 ≤ 285 by omega) this
     omega
    have e3:=shlN (a:=285) (i:=14 - n - 8) (by omega) hp
    have e4:=xorN hl hp
    rw [← e3] at e4
    have next:∀ x:Int,x = (red (n + 1) s:Int) → Ok (patinaref01_Mul_j2 k (14 - (n:Int)) nx' x m) fun r => r = (((a * b).v:Int),m):=by
     rintro x rfl
     unfold patinaref01_Mul_j2
     simp (disch:=omega) only [SX,plus]
     exact hnx' (r' - 1) _ _ _ (by omega) ⟨rfl,n + 1,by omega,by omega,rfl⟩
    rw [decide_eq_true (show (14:Int) - n ≥ 8 by omega),cond_true,decide_eq_false (show ¬ (14:Int) - n < 0 by omega),cond_false,wrap_i64 (x:=(14:Int) - n - 8) (by omega) (by omega),decide_eq_false (show ¬ (14:Int) - n - 8 < 0 by omega),c6]
    have c285:((285:Nat):Int) = 285:=rfl
    rw [c285] at e4
    rw [e4]
    rw [show shrI .i64 (red n s:Int) (14 - (n:Int)) = shrI .i64 (red n s:Int) ((14 - n:Nat):Int) by rw [c14],e2]
    cases hbit:bitN (red n s) (14 - n) with
    | true =>
     have:(((red n s / 2 ^ (14 - n) % 2:Nat):Int) == 1) = true:=beqI_yes (by unfold bitN at hbit;have:=beq_iff_eq.1 hbit;omega)
     rw [this,cond_true,cond_false]
     exact next _ (by rw [red,hbit,if_pos rfl])
    | false =>
     have:(((red n s / 2 ^ (14 - n) % 2:Nat):Int) == 1) = false:=beqI_no (by unfold bitN at hbit;have:=beq_eq_false_iff_ne.1 hbit;omega)
     rw [this,cond_false]
     exact next _ (by rw [red,hbit,if_neg (by simp)])
   ·obtain rfl:n = 7:=by omega
    rw [decide_eq_false (show ¬ (14:Int) - ((7:Nat):Int) ≥ 8 by omega),cond_false,hfin]
    exact .some (by rw [wrap_v])
 obtain ⟨r,h1,rfl⟩:=key
 exact h1
end Go.Proofs.YtchonnaoojpdoaaGreat
set_option linter.unusedVariables false
set_option linter.unusedSectionVars false
set_option linter.unusedSimpArgs false
namespace Go.Proofs.YtchonnaoojpdoaaGreat
open Go.Mx
theorem refEval_is (k:Nat) (hk:1000 < k) {m:Mem} {a:Option Addr} {n c:Nat} {w:Nat → GF} (hw:Src m a n w) (hn:n < 1000) (x:GF):patinaref01_Eval k a n c (x.v:Int) m = some (((GF.hor w x n).v:Int),m):=by
 have key:Ok (patinaref01_Eval k a n c (x.v:Int) m) fun r => r = (((GF.hor w x n).v:Int),m):=by
  unfold patinaref01_Eval
  have h1:(1:Int) = (((1:GF).v:Nat):Int):=rfl
  have h0:(0:Int) = (((0:GF).v:Nat):Int):=rfl
  rw [wrap_i64 (by omega) (by omega)]
  refine patinaref01_Eval_l0_rule k _ (fun r x0a x0n x0c x1 x5 x6 x7 m' => a = x0a ∧ n = x0n ∧ c = x0c ∧ (x.v:Int) = x1 ∧ m = m' ∧ ∃ (S P:GF),(S.v:Int) = x5 ∧ (P.v:Int) = x6 ∧ x7 = (r:Int) - 1 ∧ r ≤ n ∧ GF.hor w x n = GF.hor w x r * P + S) ?_ k n _ _ _ _ _ _ _ _ (by omega)
   ⟨rfl,rfl,rfl,rfl,rfl,0,1,rfl,rfl,rfl,Nat.le_refl _,by rw [GF.mul_one,GF.add_zero]⟩
  rintro r nx _ _ _ _ _ _ _ _ ⟨rfl,rfl,rfl,rfl,rfl,S,P,rfl,rfl,rfl,hr,he⟩ hnx
  unfold patinaref01_Eval_l0_b
  cases r with
  | zero =>
   have:decide (((0:Nat):Int) - 1 ≥ 0) = false:=rfl
   rw [this,cond_false,he]
   refine .some ?_
   show ((S.v:Int),m) = _
   rw [show GF.hor w x 0 = 0 from rfl,GF.zero_mul,GF.zero_add]
  | succ r =>
   have hi:(((r + 1:Nat):Int) - 1) = (r:Int):=by omega
   rw [hi]
   obtain ⟨ad,rfl,e1⟩:=hw.ld (i:=r) (by omega)
   unfold plus at e1
   have hd:decide ((r:Int) ≥ 0) = true:=decide_eq_true (by omega)
   simp (disch:=omega) only [SX,plus,hd,e1,refMul_is k hk,xor_v]
   refine hnx r _ _ _ _ _ _ _ _ (by omega) ⟨rfl,rfl,rfl,rfl,rfl,_,_,rfl,rfl,rfl,by omega,?_⟩
   rw [he,GF.hor]
   simp only [GF.mul_add,GF.add_mul,GF.mul_assoc,GF.mul_comm,GF.mul_left_comm,GF.add_assoc,GF.add_comm,GF.add_left_comm]
 obtain ⟨r,h1,rfl⟩:=key
 exact h1
theorem refSyn_ok (k:Nat) (hk:1000 < k) {m:Mem} {a:Option Addr} {c:Nat} {w:Nat → GF} (hw:Src m a 64 w) :
 Ok (patinaref02_Syndromes k a 64 c m) fun r => ∃ a',r.1 = ⟨a',6,6⟩ ∧ Ab m r.2 a' 6 (GF.syn w):=by
 unfold patinaref02_Syndromes
 refine patinaref02_Syndromes_l0_rule k _ (fun r x0a x0n x0c x3a x3n x3c x4 x5 m' => a = x0a ∧ 64 = x0n ∧ c = x0c ∧ ∃ j:Nat,j = x3n ∧ j = x3c ∧ ((GF.pw j).v:Int) = x4 ∧ x5 = j ∧ j + r = 6 ∧ Ab m m' x3a j (GF.syn w)) ?_ k 6 _ _ _ _ _ _ _ _ _ (by omega)
  ⟨rfl,rfl,rfl,0,rfl,rfl,rfl,rfl,by omega,Ab.nil _ _⟩
 rintro r nx _ _ _ x3a _ _ _ _ m' ⟨rfl,rfl,rfl,j,rfl,rfl,rfl,rfl,hr,hA⟩ hnx
 unfold patinaref02_Syndromes_l0_b
 by_cases hj:(j:Int) < 6
 ·have e1:=refEval_is k hk (c:=c) (hw.grow hA.1) (by omega) (GF.pw j)
  rw [GF.syn_hor] at e1
  obtain ⟨a',m2,e2,hA2⟩:=hA.one (GF.syn w j) (by unfold most;omega)
  have e3:=refMul_is k hk (GF.pw j) (GF.pw 1) m2
  rw [GF.pw_pw] at e3
  have h2:((GF.pw 1).v:Int) = 2:=rfl
  rw [h2] at e3
  simp (disch:=omega) only [SX,plus,e1,rdSl_new,e2,e3]
  exact hnx (r - 1) _ _ _ _ _ _ _ _ _ (by omega) ⟨rfl,rfl,rfl,j + 1,rfl,rfl,rfl,by omega,by omega,hA2.congr fun i hi => by
   unfold put
   by_cases h3:i = j
   ·rw [if_pos h3,h3]
   ·rw [if_neg h3]⟩
 ·obtain rfl:j = 6:=by omega
  simp (disch:=omega) only [SX,plus]
  exact .some ⟨_,rfl,hA⟩
end Go.Proofs.YtchonnaoojpdoaaGreat
set_option linter.unusedVariables false
set_option linter.unusedSectionVars false
set_option linter.unusedSimpArgs false
namespace Go.Proofs.YtchonnaoojpdoaaGreat
open Go.Mx
theorem bys_stc {m:Mem} {d n:Nat} {w u:Nat → GF} {sp:Option Nat} (h:m[d]? = some (.live (bys n w))) {o l:Nat} (hl:o + l ≤ n):stCells m ⟨d,o,sp⟩ (bys l u) = some (wr m d (bys n fun i => if o ≤ i ∧ i < o + l then u (i - o) else w i)):=by
 rw [stCells_wr h (by rw [bys_len,bys_len];exact hl)]
 congr 2
 apply List.ext_getElem?
 intro k
 rw [bys_len]
 by_cases hk:k < n
 ·rw [bys_get hk]
  by_cases h1:k < o
  ·rw [if_neg (by omega),List.append_assoc,List.getElem?_append_left (by rw [List.length_take,bys_len];omega),List.getElem?_take,if_pos h1,bys_get hk]
  ·by_cases h2:k < o + l
   ·rw [if_pos (by omega),List.append_assoc,List.getElem?_append_right (by rw [List.length_take,bys_len];omega),List.length_take,bys_len,Nat.min_eq_left (by omega),List.getElem?_append_left (by rw [bys_len];omega),bys_get (by omega)]
   ·rw [if_neg (by omega),List.getElem?_append_right (by rw [List.length_append,List.length_take,bys_len,bys_len];omega),List.length_append,List.length_take,bys_len,bys_len,Nat.min_eq_left (by omega),List.getElem?_drop,show o + l + (k - (o + l)) = k by omega,bys_get hk]
 ·rw [List.getElem?_eq_none (by simp only [List.length_append,List.length_take,List.length_drop,bys_len];omega),List.getElem?_eq_none (by rw [bys_len];omega)]
theorem bys_ldc {m:Mem} {d n:Nat} {w:Nat → GF} {sp:Option Nat} (h:m[d]? = some (.live (bys n w))):ldCells m ⟨d,0,sp⟩ n = some (bys n w):=by
 rw [ldCells_of h (by rw [bys_len];omega),List.drop_zero,List.take_of_length_le (by rw [bys_len];omega)]
def tin (q:Nat → GF) (x:GF) (i:Nat) (o:Nat → GF):Nat → Nat → GF
 | 0 => o
 | k + 1 => put (tin q x i o k) (i + k) (tin q x i o k (i + k) + x * q k)
def tout (p q:Nat → GF) (n:Nat):Nat → Nat → GF
 | 0 => fun _ => 0
 | i + 1 => tin q (p i) i (tout p q n i) n
theorem times_is (k:Nat) {m:Mem} {f:Nat} (h:m[f]? = some (.live fldR)) {a b:Option Addr} {n1 n2 c1 c2:Nat} {p q:Nat → GF} (hp:Src m a n1 p) (hq:Src m b n2 q) (h1:0 < n1 ∧ n1 < 1000) (h2:0 < n2 ∧ n2 < 1000) (hk:1000 < k) :
 field_Field_Times k (some ⟨f,0,none⟩) a n1 c1 b n2 c2 m = some (⟨some ⟨m.length,0,none⟩,n1 + n2 - 1,n1 + n2 - 1⟩,m ++ [.live (bys (n1 + n2 - 1) (tout p q n2 n1))]):=by
 have key:Ok (field_Field_Times k (some ⟨f,0,none⟩) a n1 c1 b n2 c2 m) fun r => r = (⟨some ⟨m.length,0,none⟩,n1 + n2 - 1,n1 + n2 - 1⟩,m ++ [.live (bys (n1 + n2 - 1) (tout p q n2 n1))]):=by
  unfold field_Field_Times
  have hb:(tt 5).bytes = 1:=by kernel_rfl
  have hn:((n1:Int) + n2 - 1).toNat = n1 + n2 - 1:=by omega
  have hd1:decide (0 ≤ (n1:Int) + n2 - 1) = true:=decide_eq_true (by omega)
  have hd2:decide ((n1:Int) + n2 - 1 ≤ (n1:Int) + n2 - 1) = true:=decide_eq_true (by omega)
  have hd3:decide (((n1:Int) + n2 - 1) * ((1:Nat):Int) ≤ ((most:Nat):Int)) = true:=decide_eq_true (by unfold most;omega)
  have hd4:decide ((n1:Int) + n2 - 1 ≤ ((most:Nat):Int)) = true:=decide_eq_true (by unfold most;omega)
  simp (disch:=omega) only [SX,plus,hb,hn,hd1,hd2,hd3,hd4,Bool.and_self,bys_zero]
  refine field_Field_Times_l0_rule k _ (fun r x0 x2a x2n x2c x7a x7n x7c x27a x27n x27c x28 x29 m' => (some ⟨f,0,none⟩:Option Addr) = x0 ∧ b = x2a ∧ n2 = x2n ∧ c2 = x2c ∧ (some ⟨m.length,0,none⟩:Option Addr) = x7a ∧ n1 + n2 - 1 = x7n ∧ n1 + n2 - 1 = x7c ∧ a = x27a ∧ n1 = x27n ∧ c1 = x27c ∧ (n1:Int) = x28 ∧
   ∃ i:Nat,x29 = i ∧ i + r = n1 ∧ m' = m ++ [.live (bys (n1 + n2 - 1) (tout p q n2 i))]) ?_ k n1 _ _ _ _ _ _ _ _ _ _ _ _ _ (by omega) ⟨rfl,rfl,rfl,rfl,rfl,rfl,rfl,rfl,rfl,rfl,rfl,0,rfl,by omega,rfl⟩
  rintro r nx _ _ _ _ _ _ _ _ _ _ _ _ _ ⟨rfl,rfl,rfl,rfl,rfl,rfl,rfl,rfl,rfl,rfl,rfl,i,rfl,hr,rfl⟩ hnx
  unfold field_Field_Times_l0_b
  by_cases hi:(i:Int) < n1
  ·obtain ⟨ad,rfl,e1⟩:=(hp.grow (Gr.app m [.live (bys (n1 + n2 - 1) (tout p q n2 i))])).ld (i:=i) (by omega)
   unfold plus at e1
   simp (disch:=omega) only [SX,plus,e1]
   refine field_Field_Times_l2_rule k _ (fun r x0 x2a x2n x2c x7a x7n x7c x8 x9 x27a x27n x27c x28 x29 x34a x34n x34c x35 x36 m' => (some ⟨f,0,none⟩:Option Addr) = x0 ∧ b = x2a ∧ n2 = x2n ∧ c2 = x2c ∧ (some ⟨m.length,0,none⟩:Option Addr) = x7a ∧ n1 + n2 - 1 = x7n ∧ n1 + n2 - 1 = x7c ∧ (i:Int) = x8 ∧ ((p i).v:Int) = x9 ∧ some ad = x27a ∧ n1 = x27n ∧ c1 = x27c ∧ (n1:Int) = x28 ∧ (i:Int) = x29 ∧
    b = x34a ∧ n2 = x34n ∧ c2 = x34c ∧ (n2:Int) = x35 ∧ ∃ j:Nat,x36 = j ∧ j + r = n2 ∧ m' = m ++ [.live (bys (n1 + n2 - 1) (tin q (p i) i (tout p q n2 i) j))]) ?_ k n2 _ _ _ _ _ _ _ _ _ _ _ _ _ _ _ _ _ _ _ _ (by omega)
    ⟨rfl,rfl,rfl,rfl,rfl,rfl,rfl,rfl,rfl,rfl,rfl,rfl,rfl,rfl,rfl,rfl,rfl,rfl,0,rfl,by omega,rfl⟩
   rintro r' nx' _ _ _ _ _ _ _ _ _ _ _ _ _ _ _ _ _ _ _ _ ⟨rfl,rfl,rfl,rfl,rfl,rfl,rfl,rfl,rfl,rfl,rfl,rfl,rfl,rfl,rfl,rfl,rfl,rfl,j,rfl,hr',rfl⟩ hnx'
   unfold field_Field_Times_l2_b
   by_cases hj:(j:Int) < n2
   ·generalize hT:tin q (p i) i (tout p q n2 i) j = o at *
    obtain ⟨bd,rfl,e2⟩:=(hq.grow (Gr.app m [.live (bys (n1 + n2 - 1) o)])).ld (i:=j) (by omega)
    unfold plus at e2
    have hl:=get_last (m:=m) (o:=.live (bys (n1 + n2 - 1) o)) rfl
    have e3:=bys_ld (sp:=none) hl (i:=i + j) (by omega)
    have e4:=bys_st (sp:=none) hl (i:=i + j) (by omega) (o (i + j) + p i * q j)
    have hm:=mul_is k (get_grow (g:=[.live (bys (n1 + n2 - 1) o)]) h) (p i) (q j)
    have hij:((i:Int) + j).toNat = i + j:=by omega
    have h3:inRange ((i:Int) + j) (n1 + n2 - 1) = true:=inRange_yes (by omega) (by omega)
    rw [wr_last rfl] at e4
    simp (disch:=omega) only [SX,plus,e2,hij,h3,e3,hm,xor_v,e4,beq_self_eq_true]
    exact hnx' (r' - 1) _ _ _ _ _ _ _ _ _ _ _ _ _ _ _ _ _ _ _ _ (by omega) ⟨rfl,rfl,rfl,rfl,rfl,rfl,rfl,rfl,rfl,rfl,rfl,rfl,rfl,rfl,rfl,rfl,rfl,rfl,j + 1,by omega,by omega,by rw [tin,hT]⟩
   ·obtain rfl:j = n2:=by omega
    simp (disch:=omega) only [SX,plus]
    exact hnx (r - 1) _ _ _ _ _ _ _ _ _ _ _ _ _ (by omega) ⟨rfl,rfl,rfl,rfl,rfl,rfl,rfl,rfl,rfl,rfl,rfl,i + 1,by omega,by omega,rfl⟩
  ·obtain rfl:i = n1:=by omega
   simp (disch:=omega) only [SX,plus]
   exact .some rfl
 obtain ⟨r,h1,rfl⟩:=key
 exact h1
def lin (j:Nat):Nat → GF:=fun i => if i = 0 then 1 else GF.pw j
def gens:Nat → Nat → GF
 | 0 => fun _ => 1
 | j + 1 => tout (gens j) (lin j) 2 (j + 1)
def gC:Nat → GF:=fun i => gens 6 (1 + i)
theorem gC_all:(List.range 6).all (fun j => GF.hor gC (GF.pw j) 6 == GF.pw j * (GF.pw j * (GF.pw j * (GF.pw j * (GF.pw j * GF.pw j))))) = true:=by decide +kernel
theorem gC_gen:GF.Gen gC:=fun j hj => by
 have:=List.all_eq_true.1 gC_all j (List.mem_range.2 hj)
 exact beq_iff_eq.1 this
def Cod (m:Mem) (c:Nat):Prop:=∃ f b,m[c]? = some (.live [.pointer (some ⟨f,0,none⟩),.slice (some ⟨b,1,none⟩) 6 6]) ∧ m[f]? = some (.live fldR) ∧ m[b]? = some (.live (bys 7 (gens 6)))
theorem Cod.grow {m m':Mem} {c:Nat} (h:Cod m c) (hg:Gr m m'):Cod m' c:=by
 obtain ⟨f,b,h1,h2,h3⟩:=h
 exact ⟨f,b,hg.get h1,hg.get h2,hg.get h3⟩
theorem fieldNew_is (k:Nat) (m:Mem):field_New k m = some (some ⟨m.length,0,none⟩,m ++ [.live fldZ]):=by
 unfold field_New
 rw [field_zero]
 have:Nat.beq fldZ.length 769 = true:=by unfold fldZ;rw [fieldC_len];rfl
 simp (disch:=omega) only [SX,plus,this]
theorem rsNew_ok (k:Nat) (hk:1000 < k) (m:Mem):Ok (rs_New k m) fun r => ∃ c,r.1 = some ⟨c,0,none⟩ ∧ Gr m r.2 ∧ m.length ≤ c ∧ Cod r.2 c:=by
 unfold rs_New
 simp (disch:=omega) only [SX,plus,fieldNew_is]
 refine rs_New_l0_rule k _ (fun r x1 x2a x2n x2c x6 m' => (some ⟨m.length,0,none⟩:Option Addr) = x1 ∧ ∃ j d:Nat,x6 = j ∧ j + r = 6 ∧ (some ⟨d,0,none⟩:Option Addr) = x2a ∧ j + 1 = x2n ∧ j + 1 = x2c ∧ Gr m m' ∧ m.length < d ∧ m'[d]? = some (.live (bys (j + 1) (gens j))) ∧ m'[m.length]? = some (.live (if j = 0 then fldZ else fldR))) ?_ k 6 _ _ _ _ _ _ (by omega)
  ⟨rfl,0,_,rfl,by omega,rfl,rfl,rfl,(Gr.app _ _).trans (Gr.app _ _),by simp,get_last rfl,get_grow (get_last rfl)⟩
 rintro r nx _ _ _ _ _ m' ⟨rfl,j,d,rfl,hr,rfl,rfl,rfl,hG,hd,h1,h2⟩ hnx
 unfold rs_New_l0_b
 by_cases hj:(j:Int) < 6
 ·
  have h2':∃ m2,field_Field_Exp k (some ⟨m.length,0,none⟩) (j:Int) m' = some (((GF.pw j).v:Int),m2) ∧ Gr m m2 ∧ m2[d]? = some (.live (bys (j + 1) (gens j))) ∧ m2[m.length]? = some (.live fldR) ∧ m'.length = m2.length:=by
   by_cases h0:j = 0
   ·rw [if_pos h0] at h2
    exact ⟨_,exp_first k (by omega) h2 j (by omega),hG.wr (Nat.le_refl _) _,by rw [wr_ne (by omega)];exact h1,wr_get h2,wr_len.symm⟩
   ·rw [if_neg h0] at h2
    exact ⟨_,exp_is k h2 j (by omega),hG,h1,h2,rfl⟩
  obtain ⟨m2,e1,hG2,h3,h4,_⟩:=h2'
  have hlin:[Value.int .u8 1,.int .u8 ((GF.pw j).v:Int)] = bys 2 (lin j):=rfl
  have e2:=times_is k (get_grow (g:=[.live (bys 2 (lin j))]) h4) (c1:=j + 1) (c2:=2) (Src.of (sp:=none) (get_grow (g:=[.live (bys 2 (lin j))]) h3)) (Src.of (sp:=none) (get_last (m:=m2) (o:=.live (bys 2 (lin j))) rfl)) (by omega) (by omega) hk
  simp (disch:=omega) only [SX,plus,e1,hlin,e2]
  have hl:(m2 ++ [MObj.live (bys 2 (lin j))]).length = m2.length + 1:=by simp
  have hl2:=hG2.len
  refine hnx (r - 1) _ _ _ _ _ _ (by omega) ⟨rfl,j + 1,_,by omega,by omega,rfl,by omega,by omega,(hG2.trans (Gr.app _ _)).trans (Gr.app _ _),by omega,get_last rfl,?_⟩
  rw [if_neg (by omega)]
  exact get_grow (get_grow h4)
 ·obtain rfl:j = 6:=by omega
  have ho:sliceK.okZ (some ⟨d,0,none⟩) 1 false = true:=rfl
  have hc:sliceK.clear (some ⟨d,0,none⟩) false = some ⟨d,0,none⟩:=rfl
  have t1:Int.toNat 1 = 1:=rfl
  simp (disch:=omega) only [SX,plus,ho,hc,Bool.and_self,t1]
  exact .some ⟨m'.length,rfl,hG.trans (Gr.app _ _),hG.len,m.length,d,get_last rfl,get_grow h2,get_grow h1⟩
section
variable (k:Nat) (hk:1000 < k) {m:Mem} {c:Nat} (hC:Cod m c)
include hk hC
theorem encode_ok {a:Option Addr} {cc:Nat} {w:Nat → GF} (hw:Src m a 58 w) :
 Ok (rs_Codec_Encode k (some ⟨c,0,none⟩) a 58 cc m) fun r => ∃ d,r.1 = ⟨some ⟨d,0,none⟩,64,64⟩ ∧ r.2.1 = .nilIface ∧ Gr m r.2.2 ∧ m.length ≤ d ∧ r.2.2[d]? = some (.live (bys 64 (GF.cw gC w))):=by
 obtain ⟨f,b,c1,c2,c3⟩:=hC
 unfold rs_Codec_Encode
 have h58:(((58:Nat):Int) != 58) = false:=rfl
 simp (disch:=omega) only [SX,plus,h58,bys_zero]
 refine rs_Codec_Encode_l0_rule k _ (fun r x0 x1a x1n x1c x6 x16a x16n x16c x17 x18 m' => (some ⟨c,0,none⟩:Option Addr) = x0 ∧ a = x1a ∧ 58 = x1n ∧ cc = x1c ∧ ⟨m.length,0,none⟩ = x6 ∧ a = x16a ∧ 58 = x16n ∧ cc = x16c ∧ ((58:Nat):Int) = x17 ∧ ∃ i:Nat,x18 = i ∧ i + r = 58 ∧ m' = m ++ [.live (bys 6 (GF.rest gC w i))]) ?_ k 58 _ _ _ _ _ _ _ _ _ _ _ (by omega)
  ⟨rfl,rfl,rfl,rfl,rfl,rfl,rfl,rfl,rfl,0,rfl,by omega,rfl⟩
 rintro r nx _ _ _ _ _ _ _ _ _ _ _ ⟨rfl,rfl,rfl,rfl,rfl,rfl,rfl,rfl,rfl,i,rfl,hr,rfl⟩ hnx
 unfold rs_Codec_Encode_l0_b
 by_cases hi:(i:Int) < ((58:Nat):Int)
 ·generalize hR:GF.rest gC w i = R at *
  have hl:=get_last (m:=m) (o:=.live (bys 6 R)) rfl
  obtain ⟨ad,rfl,e1⟩:=(hw.grow (Gr.app m [.live (bys 6 R)])).ld (i:=i) (by omega)
  unfold plus at e1
  have e2:=bys_ld (sp:=none) hl (i:=0) (by omega)
  have e3:=bys_rd (sp:=none) hl (o:=1) (l:=5) (by omega)
  have e4:=bys_stc (sp:=none) (u:=fun i => R (1 + i)) hl (o:=0) (l:=5) (by omega)
  rw [wr_last rfl] at e4
  have hl2:=get_last (m:=m) (o:=.live (bys 6 fun i => if 0 ≤ i ∧ i < 0 + 5 then R (1 + (i - 0)) else R i)) rfl
  have e5:=bys_st (sp:=none) hl2 (i:=5) (by omega) 0
  rw [wr_last rfl] at e5
  have hS:bys 6 (put (fun i => if 0 ≤ i ∧ i < 0 + 5 then R (1 + (i - 0)) else R i) 5 0) = bys 6 fun k => if k < 5 then R (k + 1) else 0:=bys_congr fun k hk => by
   unfold put
   by_cases h5:k = 5
   ·rw [if_pos h5,if_neg (by omega)]
   ·rw [if_neg h5];dsimp only;rw [if_pos (by omega),if_pos (by omega),show 1 + (k - 0) = k + 1 by omega]
  rw [hS] at e5
  have e6:ldSl (m ++ [.live (bys 6 fun k => if k < 5 then R (k + 1) else 0)]) ⟨c,1,none⟩ = some ⟨some ⟨b,1,none⟩,6,6⟩:=ldSl_of (get_grow c1) rfl
  have t1:Int.toNat 1 = 1:=rfl
  have t5:Int.toNat 5 = 5:=rfl
  have t0:Int.toNat 0 = 0:=rfl
  have ho:sliceK.okZ (some ⟨m.length,0,none⟩) 1 true = true:=rfl
  have hc:sliceK.clear (some ⟨m.length,0,none⟩) true = some ⟨m.length,0,none⟩:=rfl
  have hmin:min (6 - 1) 6 = 5:=rfl
  have hst:∀ l,oper.stSl (m ++ [.live (bys 6 R)]) (some ⟨m.length,0,none⟩) l = stCells (m ++ [.live (bys 6 R)]) ⟨m.length,0,none⟩ l:=fun _ => rfl
  have z0:(Value.int .u8 0) = .int .u8 (((0:GF).v:Nat):Int):=rfl
  simp (disch:=omega) only [SX,plus,e1,t0,e2,ho,t1,Bool.and_self,hc,hmin,e3,hst,e4,t5,z0,e5,e6,xor_v]
  refine rs_Codec_Encode_l2_rule k _ (fun r x0 x1a x1n x1c x6 x9 x16a x16n x16c x17 x18 x33a x33n x33c x34 x35 m' => (some ⟨c,0,none⟩:Option Addr) = x0 ∧ some ad = x1a ∧ 58 = x1n ∧ cc = x1c ∧ ⟨m.length,0,none⟩ = x6 ∧ ((R 0 + w i).v:Int) = x9 ∧ some ad = x16a ∧ 58 = x16n ∧ cc = x16c ∧ ((58:Nat):Int) = x17 ∧ (i:Int) = x18 ∧
   (some ⟨b,1,none⟩:Option Addr) = x33a ∧ 6 = x33n ∧ 6 = x33c ∧ ((6:Nat):Int) = x34 ∧ ∃ j:Nat,x35 = j ∧ j + r = 6 ∧ m' = m ++ [.live (bys 6 fun k => if k < j then GF.lstep gC R (w i) k else if k < 5 then R (k + 1) else 0)]) ?_ k 6 _ _ _ _ _ _ _ _ _ _ _ _ _ _ _ _ _ (by omega)
   ⟨rfl,rfl,rfl,rfl,rfl,rfl,rfl,rfl,rfl,rfl,rfl,rfl,rfl,rfl,rfl,0,rfl,by omega,by
    rw [bys_congr (u:=fun k => if k < 0 then GF.lstep gC R (w i) k else if k < 5 then R (k + 1) else 0) (w:=fun k => if k < 5 then R (k + 1) else 0) fun k hk => if_neg (by omega)]⟩
  rintro r' nx' _ _ _ _ _ _ _ _ _ _ _ _ _ _ _ _ _ ⟨rfl,rfl,rfl,rfl,rfl,rfl,rfl,rfl,rfl,rfl,rfl,rfl,rfl,rfl,rfl,j,rfl,hr',rfl⟩ hnx'
  unfold rs_Codec_Encode_l2_b
  by_cases hj:(j:Int) < ((6:Nat):Int)
  ·have hl3:=get_last (m:=m) (o:=.live (bys 6 fun k => if k < j then GF.lstep gC R (w i) k else if k < 5 then R (k + 1) else 0)) rfl
   have f1:=bys_ld (sp:=none) hl3 (i:=j) (by omega)
   simp only [if_neg (Nat.lt_irrefl j)] at f1
   have f2:=bys_ld (sp:=none) (get_grow (g:=[.live (bys 6 fun k => if k < j then GF.lstep gC R (w i) k else if k < 5 then R (k + 1) else 0)]) c3) (i:=1 + j) (by omega)
   have f3:=mul_is k (get_grow (g:=[.live (bys 6 fun k => if k < j then GF.lstep gC R (w i) k else if k < 5 then R (k + 1) else 0)]) c2) (R 0 + w i) (gens 6 (1 + j))
   have f4:=bys_st (sp:=none) hl3 (i:=j) (by omega) (GF.lstep gC R (w i) j)
   rw [wr_last rfl] at f4
   have f5:ldPtr (m ++ [.live (bys 6 fun k => if k < j then GF.lstep gC R (w i) k else if k < 5 then R (k + 1) else 0)]) ⟨c,0,none⟩ = some (some ⟨f,0,none⟩):=ldPtr_of (get_grow c1) rfl
   have f6:((if j < 5 then R (j + 1) else 0) + (R 0 + w i) * gens 6 (1 + j)) = GF.lstep gC R (w i) j:=rfl
   simp (disch:=omega) only [SX,plus,f1,f2,f5,f3,xor_v,f6,f4,beq_self_eq_true]
   refine hnx' (r' - 1) _ _ _ _ _ _ _ _ _ _ _ _ _ _ _ _ _ (by omega) ⟨rfl,rfl,rfl,rfl,rfl,rfl,rfl,rfl,rfl,rfl,rfl,rfl,rfl,rfl,rfl,j + 1,by omega,by omega,?_⟩
   congr 3
   exact bys_congr fun k hk => by
    unfold put
    by_cases h6:k = j
    ·rw [if_pos h6,if_pos (by omega),h6]
    ·rw [if_neg h6];dsimp only
     by_cases h7:k < j
     ·rw [if_pos h7,if_pos (show k < j + 1 by omega)]
     ·rw [if_neg h7,if_neg (show ¬ k < j + 1 by omega)]
  ·obtain rfl:j = 6:=by omega
   simp (disch:=omega) only [SX,plus]
   refine hnx (r - 1) _ _ _ _ _ _ _ _ _ _ _ (by omega) ⟨rfl,rfl,rfl,rfl,rfl,rfl,rfl,rfl,rfl,i + 1,by omega,by omega,?_⟩
   congr 3
   rw [GF.rest,hR]
   exact bys_congr fun k hk => if_pos hk
 ·obtain rfl:i = 58:=by omega
  generalize hR:GF.rest gC w 58 = R at *
  have hl:=get_last (m:=m) (o:=.live (bys 6 R)) rfl
  have t64:Int.toNat 64 = 64:=rfl
  have t0:Int.toNat 0 = 0:=rfl
  have hlen:(m ++ [MObj.live (bys 6 R)]).length = m.length + 1:=by simp
  have e1:=(hw.grow ((Gr.app m [.live (bys 6 R)]).trans (Gr.app _ [.live (bys 64 fun _ => 0)])))
  unfold Src at e1
  have hl2:=get_last (m:=m ++ [.live (bys 6 R)]) (o:=.live (bys 64 fun _ => 0)) rfl
  have e2:=bys_stc (sp:=none) (u:=w) hl2 (o:=0) (l:=58) (by omega)
  rw [wr_last rfl] at e2
  have hl3:=get_last (m:=m ++ [.live (bys 6 R)]) (o:=.live (bys 64 fun i => if 0 ≤ i ∧ i < 0 + 58 then w (i - 0) else 0)) rfl
  have e3:=bys_rd0 (sp:=none) (get_grow (g:=[.live (bys 64 fun i => if 0 ≤ i ∧ i < 0 + 58 then w (i - 0) else 0)]) hl)
  have e4:=bys_stc (sp:=none) (u:=R) hl3 (o:=58) (l:=6) (by omega)
  rw [wr_last rfl] at e4
  have hc:sliceK.clear (some ⟨m.length,0,none⟩) true = some ⟨m.length,0,none⟩:=rfl
  rw [hlen] at e2 e4
  have hE:(bys 64 fun i => if 58 ≤ i ∧ i < 58 + 6 then R (i - 58) else if 0 ≤ i ∧ i < 0 + 58 then w (i - 0) else 0) = bys 64 (GF.cw gC w):=bys_congr fun k hk => by
   unfold GF.cw
   rw [hR]
   by_cases h6:k < 58
   ·rw [if_neg (by omega),if_pos (by omega),if_pos h6];rfl
   ·rw [if_pos (by omega),if_neg h6]
  rw [hE] at e4
  simp (disch:=omega) only [SX,plus,t64,bys_zero,e1,t0,hlen,appM_room,e2,hc,e3,e4]
  exact .some ⟨m.length + 1,rfl,rfl,(Gr.app m _).trans (Gr.app _ _),by omega,get_last hlen⟩
theorem syn_ok {a:Option Addr} {cc:Nat} {w:Nat → GF} (hw:Src m a 64 w) :
 Ok (rs_Codec_syndromes k (some ⟨c,0,none⟩) a 64 cc m) fun r => r.1 = bys 6 (GF.syn w) ∧ Gr m r.2:=by
 obtain ⟨f,b,c1,c2,c3⟩:=hC
 unfold rs_Codec_syndromes
 have hlen:(m ++ [MObj.live (bys 6 fun _ => 0)]).length = m.length + 1:=by simp
 simp (disch:=omega) only [SX,plus,bys_zero,hlen]
 refine rs_Codec_syndromes_l0_rule k _ (fun r x0 x1a x1n x1c x4 x5 x7 m' => (some ⟨c,0,none⟩:Option Addr) = x0 ∧ a = x1a ∧ 64 = x1n ∧ cc = x1c ∧ ⟨m.length,0,none⟩ = x4 ∧ ⟨m.length + 1,0,none⟩ = x5 ∧ ∃ i:Nat,x7 = i ∧ i + r = 6 ∧ m' = m ++ [.live (bys 6 fun _ => 0)] ++ [.live (bys 6 fun j => if j < i then GF.syn w j else 0)]) ?_ k 6 _ _ _ _ _ _ _ _ (by omega)
  ⟨rfl,rfl,rfl,rfl,rfl,rfl,0,rfl,by omega,by rw [bys_congr (u:=fun j => if j < 0 then GF.syn w j else 0) (w:=fun _ => 0) fun k hk => if_neg (by omega)]⟩
 rintro r nx _ _ _ _ _ _ _ _ ⟨rfl,rfl,rfl,rfl,rfl,rfl,i,rfl,hr,rfl⟩ hnx
 unfold rs_Codec_syndromes_l0_b
 generalize hm1:m ++ [MObj.live (bys 6 fun _ => 0)] = m1 at *
 have hg:Gr m (m1 ++ [.live (bys 6 fun j => if j < i then GF.syn w j else 0)]):=by rw [← hm1];exact (Gr.app m _).trans (Gr.app _ _)
 have hl:=get_last (o:=.live (bys 6 fun j => if j < i then GF.syn w j else 0)) hlen
 by_cases hi:(i:Int) < 6
 ·have e1:ldPtr (m1 ++ [.live (bys 6 fun j => if j < i then GF.syn w j else 0)]) ⟨c,0,none⟩ = some (some ⟨f,0,none⟩):=ldPtr_of (hg.get c1) rfl
  have e2:=exp_is k (hg.get c2) i (by omega)
  have e3:=eval_is k (hg.get c2) (c:=cc) (hw.grow hg) (by omega) (by omega) (GF.pw i)
  rw [GF.syn_hor] at e3
  have e4:=bys_st (sp:=none) hl (i:=i) (by omega) (GF.syn w i)
  rw [wr_last hlen] at e4
  have hd:decide ((some ⟨f,0,none⟩:Option Addr) = some ⟨f,0,none⟩) = true:=decide_eq_true rfl
  simp (disch:=omega) only [SX,plus,e1,e2,e3,e4,hd]
  refine hnx (r - 1) _ _ _ _ _ _ _ _ (by omega) ⟨rfl,rfl,rfl,rfl,rfl,rfl,i + 1,by omega,by omega,?_⟩
  congr 3
  exact bys_congr fun k hk => by
   unfold put
   by_cases h6:k = i
   ·rw [if_pos h6,if_pos (by omega),h6]
   ·rw [if_neg h6];dsimp only
    by_cases h7:k < i
    ·rw [if_pos h7,if_pos (by omega)]
    ·rw [if_neg h7,if_neg (by omega)]
 ·obtain rfl:i = 6:=by omega
  have e1:=bys_ldc (sp:=none) hl
  have hl0:(m1 ++ [MObj.live (bys 6 fun j => if j < 6 then GF.syn w j else 0)])[m.length]? = some (.live (bys 6 fun _ => 0)):=get_grow (by rw [← hm1];exact get_last rfl)
  have e2:=bys_stc (sp:=none) (u:=fun j => if j < 6 then GF.syn w j else 0) hl0 (o:=0) (l:=6) (by omega)
  have e3:=bys_ldc (sp:=none) (wr_get (cs:=bys 6 fun i => if 0 ≤ i ∧ i < 0 + 6 then (fun j => if j < 6 then GF.syn w j else 0) (i - 0) else 0) hl0)
  have hb:Nat.beq (bys 6 fun j => if j < 6 then GF.syn w j else 0).length 6 = true:=by rw [bys_len];rfl
  simp (disch:=omega) only [SX,plus,e1,hb,e2,e3]
  exact .some ⟨bys_congr fun k hk => by simp only [if_pos (show 0 ≤ k ∧ k < 0 + 6 by omega),Nat.sub_zero,if_pos hk],hg.wr (Nat.le_refl _) _⟩
end
end Go.Proofs.YtchonnaoojpdoaaGreat
set_option linter.unusedVariables false
set_option linter.unusedSectionVars false
set_option linter.unusedSimpArgs false
namespace Go.Proofs.YtchonnaoojpdoaaGreat
open Go.Mx
theorem refTimes_is (k:Nat) {m:Mem} {a b:Option Addr} {n1 n2 c1 c2:Nat} {p q:Nat → GF} (hp:Src m a n1 p) (hq:Src m b n2 q) (h1:0 < n1 ∧ n1 < 1000) (h2:0 < n2 ∧ n2 < 1000) (hk:1000 < k) :
 patinaref01_Times k a n1 c1 b n2 c2 m = some (⟨some ⟨m.length,0,none⟩,n1 + n2 - 1,n1 + n2 - 1⟩,m ++ [.live (bys (n1 + n2 - 1) (tout p q n2 n1))]):=by
 have key:Ok (patinaref01_Times k a n1 c1 b n2 c2 m) fun r => r = (⟨some ⟨m.length,0,none⟩,n1 + n2 - 1,n1 + n2 - 1⟩,m ++ [.live (bys (n1 + n2 - 1) (tout p q n2 n1))]):=by
  unfold patinaref01_Times
  have hb:(tt 5).bytes = 1:=by kernel_rfl
  have hn:((n1:Int) + n2 - 1).toNat = n1 + n2 - 1:=by omega
  have hd1:decide (0 ≤ (n1:Int) + n2 - 1) = true:=decide_eq_true (by omega)
  have hd2:decide ((n1:Int) + n2 - 1 ≤ (n1:Int) + n2 - 1) = true:=decide_eq_true (by omega)
  have hd3:decide (((n1:Int) + n2 - 1) * ((1:Nat):Int) ≤ ((most:Nat):Int)) = true:=decide_eq_true (by unfold most;omega)
  have hd4:decide ((n1:Int) + n2 - 1 ≤ ((most:Nat):Int)) = true:=decide_eq_true (by unfold most;omega)
  simp (disch:=omega) only [SX,plus,hb,hn,hd1,hd2,hd3,hd4,Bool.and_self,bys_zero]
  refine patinaref01_Times_l0_rule k _ (fun r x27a x27n x27c x2a x2n x2c x7a x7n x7c x29 m' => b = x2a ∧ n2 = x2n ∧ c2 = x2c ∧ (some ⟨m.length,0,none⟩:Option Addr) = x7a ∧ n1 + n2 - 1 = x7n ∧ n1 + n2 - 1 = x7c ∧ a = x27a ∧ n1 = x27n ∧ c1 = x27c ∧
   ∃ i:Nat,x29 = i ∧ i + r = n1 ∧ m' = m ++ [.live (bys (n1 + n2 - 1) (tout p q n2 i))]) ?_ k n1 _ _ _ _ _ _ _ _ _ _ _ (by omega) ⟨rfl,rfl,rfl,rfl,rfl,rfl,rfl,rfl,rfl,0,rfl,by omega,rfl⟩
  rintro r nx _ _ _ _ _ _ _ _ _ _ _ ⟨rfl,rfl,rfl,rfl,rfl,rfl,rfl,rfl,rfl,i,rfl,hr,rfl⟩ hnx
  unfold patinaref01_Times_l0_b
  by_cases hi:(i:Int) < n1
  ·simp (disch:=omega) only [SX,plus]
   refine patinaref01_Times_l2_rule k _ (fun r x27a x27n x27c x2a x2n x2c x7a x7n x7c x29 x36 m' => b = x2a ∧ n2 = x2n ∧ c2 = x2c ∧ (some ⟨m.length,0,none⟩:Option Addr) = x7a ∧ n1 + n2 - 1 = x7n ∧ n1 + n2 - 1 = x7c ∧ a = x27a ∧ n1 = x27n ∧ c1 = x27c ∧ (i:Int) = x29 ∧
    ∃ j:Nat,x36 = j ∧ j + r = n2 ∧ m' = m ++ [.live (bys (n1 + n2 - 1) (tin q (p i) i (tout p q n2 i) j))]) ?_ k n2 _ _ _ _ _ _ _ _ _ _ _ _ (by omega)
    ⟨rfl,rfl,rfl,rfl,rfl,rfl,rfl,rfl,rfl,rfl,0,rfl,by omega,rfl⟩
   rintro r' nx' _ _ _ _ _ _ _ _ _ _ _ _ ⟨rfl,rfl,rfl,rfl,rfl,rfl,rfl,rfl,rfl,rfl,j,rfl,hr',rfl⟩ hnx'
   unfold patinaref01_Times_l2_b
   by_cases hj:(j:Int) < n2
   ·generalize hT:tin q (p i) i (tout p q n2 i) j = o at *
    obtain ⟨ad,rfl,e1⟩:=(hp.grow (Gr.app m [.live (bys (n1 + n2 - 1) o)])).ld (i:=i) (by omega)
    obtain ⟨bd,rfl,e2⟩:=(hq.grow (Gr.app m [.live (bys (n1 + n2 - 1) o)])).ld (i:=j) (by omega)
    unfold plus at e1 e2
    have hl:=get_last (m:=m) (o:=.live (bys (n1 + n2 - 1) o)) rfl
    have e3:=bys_ld (sp:=none) hl (i:=i + j) (by omega)
    have e4:=bys_st (sp:=none) hl (i:=i + j) (by omega) (o (i + j) + p i * q j)
    have hm:=refMul_is k hk (p i) (q j) (m ++ [.live (bys (n1 + n2 - 1) o)])
    have hij:((i:Int) + j).toNat = i + j:=by omega
    have h3:inRange ((i:Int) + j) (n1 + n2 - 1) = true:=inRange_yes (by omega) (by omega)
    rw [wr_last rfl] at e4
    simp (disch:=omega) only [SX,plus,e1,e2,hij,h3,e3,hm,xor_v,e4,beq_self_eq_true]
    exact hnx' (r' - 1) _ _ _ _ _ _ _ _ _ _ _ _ (by omega) ⟨rfl,rfl,rfl,rfl,rfl,rfl,rfl,rfl,rfl,rfl,j + 1,by omega,by omega,by rw [tin,hT]⟩
   ·obtain rfl:j = n2:=by omega
    simp (disch:=omega) only [SX,plus]
    exact hnx (r - 1) _ _ _ _ _ _ _ _ _ _ _ (by omega) ⟨rfl,rfl,rfl,rfl,rfl,rfl,rfl,rfl,rfl,i + 1,by omega,by omega,rfl⟩
  ·obtain rfl:i = n1:=by omega
   simp (disch:=omega) only [SX,plus]
   exact .some rfl
 obtain ⟨r,h1,rfl⟩:=key
 exact h1
theorem refRule_ok (k:Nat) (hk:1000 < k) (m:Mem):Ok (patinaref02_rule k m) fun r => ∃ d,r.1 = ⟨some ⟨d,0,none⟩,7,7⟩ ∧ Gr m r.2 ∧ m.length ≤ d ∧ r.2[d]? = some (.live (bys 7 (gens 6))):=by
 unfold patinaref02_rule
 refine patinaref02_rule_l0_rule k _ (fun r x1a x1n x1c x2 x3 m' => ∃ j d:Nat,x3 = j ∧ j + r = 6 ∧ (some ⟨d,0,none⟩:Option Addr) = x1a ∧ j + 1 = x1n ∧ j + 1 = x1c ∧ ((GF.pw j).v:Int) = x2 ∧ Gr m m' ∧ m.length ≤ d ∧ m'[d]? = some (.live (bys (j + 1) (gens j)))) ?_ k 6 _ _ _ _ _ _ (by omega)
  ⟨0,_,rfl,by omega,rfl,rfl,rfl,rfl,Gr.app _ _,Nat.le_refl _,get_last rfl⟩
 rintro r nx _ _ _ _ _ m' ⟨j,d,rfl,hr,rfl,rfl,rfl,rfl,hG,hd,h1⟩ hnx
 unfold patinaref02_rule_l0_b
 by_cases hj:(j:Int) < 6
 ·have hlin:[Value.int .u8 1,.int .u8 ((GF.pw j).v:Int)] = bys 2 (lin j):=rfl
  have e2:=refTimes_is k (c1:=j + 1) (c2:=2) (Src.of (sp:=none) (get_grow (g:=[.live (bys 2 (lin j))]) h1)) (Src.of (sp:=none) (get_last (m:=m') (o:=.live (bys 2 (lin j))) rfl)) (by omega) (by omega) hk
  have e3:=fun M => refMul_is k hk (GF.pw j) (GF.pw 1) M
  simp only [GF.pw_pw,show ((GF.pw 1).v:Int) = 2 from rfl] at e3
  simp (disch:=omega) only [SX,plus,hlin,e2,e3]
  have hl:=hG.len
  exact hnx (r - 1) _ _ _ _ _ _ (by omega) ⟨j + 1,_,by omega,by omega,rfl,by omega,by omega,rfl,(hG.trans (Gr.app _ _)).trans (Gr.app _ _),by simp;omega,get_last rfl⟩
 ·obtain rfl:j = 6:=by omega
  simp (disch:=omega) only [SX,plus]
  exact .some ⟨d,rfl,hG,hd,h1⟩
def drs (m:Nat → GF) (i:Nat):Nat → GF:=fun j => (if i ≤ j ∧ j < i + 6 then GF.rest gC m i (j - i) else 0) + (if j < 58 then m j else 0)
theorem refEncode_ok (k:Nat) (hk:1000 < k) {m:Mem} {a:Option Addr} {c:Nat} {w:Nat → GF} (hw:Src m a 58 w) :
 Ok (patinaref02_Encode k a 58 c m) fun r => ∃ a',r.1 = ⟨a',64,64⟩ ∧ Ab m r.2 a' 64 (GF.cw gC w):=by
 unfold patinaref02_Encode
 have hw':rdSl m a 58 1 = some (bys 58 w):=hw
 obtain ⟨m2,e1,hA2,l2,g2,f2,q2⟩:=(Ac.nil m.length m w).app (u:=w) (l:=58) (Nat.le_refl _) (by omega) (by unfold most;omega)
 rw [Nat.zero_add] at e1 hA2
 have hG2:=q2 m (Gr.refl _) (Nat.le_refl _)
 have hz:([Value.int .u8 0,.int .u8 0,.int .u8 0,.int .u8 0,.int .u8 0,.int .u8 0]:List Value) = bys 6 fun _ => 0:=rfl
 have hA3:=hA2.keep (m':=m2 ++ [.live (bys 6 fun _ => 0)]) fun p o _ hp => get_grow hp
 have e3:=bys_rd0 (sp:=none) (get_last (m:=m2) (o:=.live (bys 6 fun _ => 0)) rfl)
 have l3:(m2 ++ [MObj.live (bys 6 fun _ => 0)]).length = m2.length + 1:=by simp
 obtain ⟨m4,e4,hA4,l4,g4,f4,q4⟩:=hA3.app (u:=fun _ => 0) (l:=6) (by omega) (by omega) (by unfold most;omega)
 have hG4:=q4 m (hG2.trans (Gr.app _ _)) (Nat.le_refl _)
 simp (disch:=omega) only [SX,plus,hw',e1,hz,e3,e4]
 refine .bind (refRule_ok k hk m4) ?_
 rintro ⟨_,m5⟩ ⟨gd,rfl,hG5,hgd,hg⟩
 simp only at hG5 hg ⊢
 have hx:=hG5.get g4
 have hs:(bys (58 + 6) fun i => if i < 58 then (if i < 0 then w i else w (i - 0)) else (0:GF)) = bys 64 (drs w 0):=bys_congr fun i hi => by
  unfold drs
  have:GF.rest gC w 0 (i - 0) = 0:=rfl
  rw [this,ite_self,GF.zero_add]
  by_cases h:i < 58
  ·rw [if_pos h,if_pos h];rfl
  ·rw [if_neg h,if_neg h]
 rw [hs] at hx
 rw [l3] at hx ⊢
 generalize hd:m2.length + 1 = d at *
 have hdm:m.length ≤ d:=by have:=hG2.len;omega
 have hdg:d ≠ gd:=by
  have:=get_lt g4
  rw [l3] at this;omega
 have hG:=hG4.trans hG5
 refine patinaref02_Encode_l0_rule k _ (fun r x0a x0n x0c x3a x3n x3c x4a x4n x4c x5 m' => a = x0a ∧ 58 = x0n ∧ c = x0c ∧ (some ⟨d,0,some 1⟩:Option Addr) = x3a ∧ 64 = x3n ∧ 64 = x3c ∧ (some ⟨gd,0,none⟩:Option Addr) = x4a ∧ 7 = x4n ∧ 7 = x4c ∧ ∃ (i:Nat) (s:Nat → GF),x5 = i ∧ i + r = 58 ∧ m' = wr m5 d (bys 64 s) ∧ ∀ j,i ≤ j → j < 64 → s j = drs w i j) ?_ k 58 _ _ _ _ _ _ _ _ _ _ _ (by omega)
  ⟨rfl,rfl,rfl,rfl,rfl,rfl,rfl,rfl,rfl,0,drs w 0,rfl,by omega,(wr_same hx).symm,fun _ _ _ => rfl⟩
 rintro r nx _ _ _ _ _ _ _ _ _ _ _ ⟨rfl,rfl,rfl,rfl,rfl,rfl,rfl,rfl,rfl,i,s,rfl,hr,rfl,hsi⟩ hnx
 unfold patinaref02_Encode_l0_b
 have hx2:=wr_get (cs:=bys 64 s) hx
 by_cases hi:(i:Int) < 58
 ·have f1:=bys_ld (sp:=some 1) hx2 (i:=i) (by omega)
  have i64:inRange (i:Int) 64 = true:=inRange_yes (by omega) (by omega)
  simp (disch:=omega) only [SX,plus,i64,f1]
  have htop:s i = GF.rest gC w i 0 + w i:=by
   rw [hsi i (Nat.le_refl _) (by omega)]
   unfold drs
   rw [if_pos (by omega),if_pos (by omega),Nat.sub_self]
  refine patinaref02_Encode_l2_rule k _ (fun r x0a x0n x0c x3a x3n x3c x4a x4n x4c x5 x6 x7 m' => a = x0a ∧ 58 = x0n ∧ c = x0c ∧ (some ⟨d,0,some 1⟩:Option Addr) = x3a ∧ 64 = x3n ∧ 64 = x3c ∧ (some ⟨gd,0,none⟩:Option Addr) = x4a ∧ 7 = x4n ∧ 7 = x4c ∧ (i:Int) = x5 ∧ ((s i).v:Int) = x6 ∧ ∃ (j:Nat) (s':Nat → GF),x7 = j ∧ j + r = 7 ∧ m' = wr m5 d (bys 64 s') ∧ ∀ t,s' t = if i ≤ t ∧ t < i + j then s t + s i * gens 6 (t - i) else s t) ?_ k 7 _ _ _ _ _ _ _ _ _ _ _ _ _ (by omega)
   ⟨rfl,rfl,rfl,rfl,rfl,rfl,rfl,rfl,rfl,rfl,rfl,0,s,rfl,by omega,rfl,fun t => by rw [if_neg (by omega)]⟩
  rintro r' nx' _ _ _ _ _ _ _ _ _ _ _ _ _ ⟨rfl,rfl,rfl,rfl,rfl,rfl,rfl,rfl,rfl,rfl,rfl,j,s',rfl,hr',rfl,hs'⟩ hnx'
  unfold patinaref02_Encode_l2_b
  have hx3:=wr_get (cs:=bys 64 s') hx
  by_cases hj:(j:Int) < ((7:Nat):Int)
  ·have hg2:(wr m5 d (bys 64 s'))[gd]? = some (.live (bys 7 (gens 6))):=by rw [wr_ne hdg];exact hg
   have g1:=bys_ld (sp:=some 1) hx3 (i:=i + j) (by omega)
   have g2:=bys_ld (sp:=none) hg2 (i:=j) (by omega)
   have g3:=refMul_is k hk (s i) (gens 6 j) (wr m5 d (bys 64 s'))
   have g4:=bys_st (sp:=some 1) hx3 (i:=i + j) (by omega) (s' (i + j) + s i * gens 6 j)
   have hij:((i:Int) + j).toNat = i + j:=by omega
   have h3:inRange ((i:Int) + j) 64 = true:=inRange_yes (by omega) (by omega)
   have h7:inRange (j:Int) 7 = true:=inRange_yes (by omega) (by omega)
   rw [wr_wr] at g4
   simp (disch:=omega) only [SX,plus,hij,h3,g1,h7,g2,g3,xor_v,g4,beq_self_eq_true]
   refine hnx' (r' - 1) _ _ _ _ _ _ _ _ _ _ _ _ _ (by omega) ⟨rfl,rfl,rfl,rfl,rfl,rfl,rfl,rfl,rfl,rfl,rfl,j + 1,_,by omega,by omega,rfl,fun t => ?_⟩
   unfold put
   by_cases h1:t = i + j
   ·rw [if_pos h1,if_pos (by omega),h1,hs',if_neg (by omega),show i + j - i = j by omega]
   ·rw [if_neg h1,hs']
    by_cases h2:i ≤ t ∧ t < i + j
    ·rw [if_pos h2,if_pos (by omega)]
    ·rw [if_neg h2,if_neg (by omega)]
  ·obtain rfl:j = 7:=by omega
   simp (disch:=omega) only [SX,plus]
   refine hnx (r - 1) _ _ _ _ _ _ _ _ _ _ _ (by omega) ⟨rfl,rfl,rfl,rfl,rfl,rfl,rfl,rfl,rfl,i + 1,s',by omega,by omega,rfl,fun t h1 h2 => ?_⟩
   rw [hs',hsi t (by omega) h2]
   have hrest:GF.rest gC w (i + 1) = GF.lstep gC (GF.rest gC w i) (w i):=rfl
   unfold drs
   rw [hrest]
   by_cases h3:t < i + 7
   ·rw [if_pos (by omega),if_pos (show i + 1 ≤ t ∧ t < i + 1 + 6 by omega),htop]
    obtain ⟨u,rfl⟩:∃ u,t = i + 1 + u:=⟨t - (i + 1),by omega⟩
    rw [show i + 1 + u - i = u + 1 by omega,show i + 1 + u - (i + 1) = u by omega]
    unfold GF.lstep
    have hgc:gC u = gens 6 (u + 1):=by unfold gC;rw [Nat.add_comm]
    rw [hgc]
    by_cases h5:u < 5
    ·rw [if_pos (by omega),if_pos h5]
     simp only [GF.add_assoc,GF.add_comm,GF.add_left_comm]
    ·rw [if_neg (by omega),if_neg h5,GF.zero_add,GF.zero_add,GF.add_comm]
   ·rw [if_neg (show ¬ (i ≤ t ∧ t < i + 7) by omega),if_neg (show ¬ (i ≤ t ∧ t < i + 6) by omega),if_neg (show ¬ (i + 1 ≤ t ∧ t < i + 1 + 6) by omega)]
 ·obtain rfl:i = 58:=by omega
  clear hnx
  have hM:Gr m (wr m5 d (bys 64 s)):=hG.wr hdm _
  have hw2:rdSl (wr m5 d (bys 64 s)) a 58 1 = some (bys 58 w):=hw.grow hM
  generalize wr m5 d (bys 64 s) = m6 at *
  obtain ⟨m7,e5,hA7,l7,g7,f7,q7⟩:=(Ac.nil m.length m6 w).app (u:=w) (l:=58) (by have:=hM.len;omega) (by omega) (by unfold most;omega)
  rw [Nat.zero_add] at e5 hA7
  have hx7:m7[d]? = some (.live (bys 64 s)):=by rw [f7 d (get_lt hx2) fun z hz => by cases hz];exact hx2
  have e6:=bys_rd (sp:=some 1) hx7 (o:=58) (l:=6) (by omega)
  obtain ⟨m8,e7,hA8,l8,g8,f8,q8⟩:=hA7.app (u:=fun i => s (58 + i)) (l:=6) (by have:=hM.len;omega) (by omega) (by unfold most;omega)
  have ho:sliceK.okZ (some ⟨d,0,some 1⟩) 1 false = true:=rfl
  have hcl:sliceK.clear (some ⟨d,0,some 1⟩) false = some ⟨d,0,some 1⟩:=rfl
  have u58:inUpto 58 64 = true:=rfl
  have t58:Int.toNat 58 = 58:=rfl
  have t6:64 - 58 = 6:=rfl
  simp (disch:=omega) only [SX,plus,hw2,e5,ho,u58,Bool.and_self,t58,hcl,t6,e6,e7]
  have hG7:=q7 m hM (Nat.le_refl _)
  refine .some ⟨_,rfl,q8 m hG7 (Nat.le_refl _),.inr ⟨m7.length,rfl,hG7.len,?_⟩⟩
  rw [g8]
  congr 2
  exact bys_congr fun i hi => by
   unfold GF.cw
   by_cases h:i < 58
   ·rw [if_pos h,if_pos h,if_neg (by omega)];rfl
   ·rw [if_neg h,if_neg h,hsi _ (by omega) (by omega)]
    unfold drs
    rw [if_pos (by omega),if_neg (by omega),GF.add_zero,show 58 + (i - 58) - 58 = i - 58 by omega]
end Go.Proofs.YtchonnaoojpdoaaGreat
set_option linter.unusedVariables false
set_option linter.unusedSectionVars false
set_option linter.unusedSimpArgs false
namespace Go.Proofs.YtchonnaoojpdoaaGreat
open Go.Mx
theorem put_flip (w:Nat → GF) (i:Nat) (e:GF):put w i (w i + e) = GF.flip w i e:=by
 funext k
 unfold put GF.flip
 by_cases h:k = i
 ·subst h;rw [if_pos rfl]
 ·rw [if_neg h,if_neg h]
theorem bys_succ (n:Nat) (w:Nat → GF):bys (n + 1) w = .int .u8 ((w 0).v:Int) :: bys n fun i => w (i + 1):=by
 apply List.ext_getElem?
 intro k
 cases k with
 | zero => rw [bys_get (by omega),List.getElem?_cons_zero]
 | succ k =>
  rw [List.getElem?_cons_succ]
  by_cases h:k < n
  ·rw [bys_get (by omega),bys_get h]
  ·rw [List.getElem?_eq_none (by rw [bys_len];omega),List.getElem?_eq_none (by rw [bys_len];omega)]
theorem cellsEq_bys:∀ (n:Nat) (u w:Nat → GF),cellsEq (List.replicate n (.int .u8)) (bys n u) (bys n w) = some (decide (∀ i,i < n → u i = w i))
 | 0,u,w => by rw [decide_eq_true (fun i hi => by omega)];rfl
 | n + 1,u,w => by
  rw [bys_succ,bys_succ,List.replicate_succ]
  have h1:cellEq (.int .u8) (.int .u8 ((u 0).v:Int)) (.int .u8 ((w 0).v:Int)) = some (decide (u 0 = w 0)):=by
   show (if IntKind.u8 = IntKind.u8 ∧ IntKind.u8 = IntKind.u8 then some (((u 0).v:Int) == ((w 0).v:Int)) else none) = _
   rw [if_pos ⟨rfl,rfl⟩,v_beq]
  simp only [cellsEq,h1,Option.bind_some,List.length_replicate,bys_len,Nat.beq_refl,Bool.and_self,cond_true,cellsEq_bys n]
  by_cases h0:u 0 = w 0
  ·rw [decide_eq_true h0,cond_true]
   congr 1
   apply decide_eq_decide.2
   constructor
   ·intro h i hi
    cases i with
    | zero => exact h0
    | succ i => exact h i (by omega)
   ·exact fun h i hi => h (i + 1) (by omega)
  ·rw [decide_eq_false h0,cond_false]
   congr 1
   exact (decide_eq_false fun h => h0 (h 0 (by omega))).symm
theorem eqK6:eqK tt 175 = List.replicate 6 (.int .u8):=by kernel_rfl
theorem syn_zero (u:Nat → GF):∃ b,cellsEq (eqK tt 175) (bys 6 u) (bys 6 fun _ => 0) = some b ∧ (b = true ↔ ∀ i,i < 6 → u i = 0):=by
 rw [eqK6,cellsEq_bys]
 exact ⟨_,rfl,decide_eq_true_iff⟩
section
variable (k:Nat) (hk:1000 < k) {m:Mem} {c d:Nat} {w:Nat → GF} {sp:Option Nat} {cc:Nat} (hC:Cod m c) (hw:m[d]? = some (.live (bys 64 w))) (hcd:d ≠ c) (hne:∀ f:Nat,m[f]? = some (.live fldR) → d ≠ f)
include hk hC hw
theorem one_ok (s:Nat → GF):Ok (rs_Codec_one k (some ⟨c,0,none⟩) (some ⟨d,0,sp⟩) 64 cc (bys 6 s) m) fun r => (GF.oneOk s ∧ r.1 = 1 ∧ Gr (wr m d (bys 64 (GF.flip w (63 - GF.lg (GF.div (s 1) (s 0))) (s 0)))) r.2) ∨ (¬ GF.oneOk s ∧ r.1 = 0 ∧ Gr m r.2):=by
 obtain ⟨f,b,c1,c2,c3⟩:=hC
 unfold rs_Codec_one
 have hb:Nat.beq (bys 6 s).length 6 = true:=by rw [bys_len];rfl
 have hg:Gr m (m ++ [.live (bys 6 s)]):=Gr.app _ _
 have hl:=get_last (m:=m) (o:=.live (bys 6 s)) rfl
 have l0:=bys_ld (sp:=none) hl (i:=0) (by omega)
 have l1:=bys_ld (sp:=none) hl (i:=1) (by omega)
 have t0:Int.toNat 0 = 0:=rfl
 have t1:Int.toNat 1 = 1:=rfl
 simp (disch:=omega) only [SX,plus,hb,t0,l0,t1,l1,v_beq0]
 by_cases h0:s 0 = 0
 ·rw [decide_eq_true h0,cond_true]
  exact .some (.inr ⟨fun h => h.1 h0,rfl,hg⟩)
 rw [decide_eq_false h0,cond_false]
 by_cases h1:s 1 = 0
 ·rw [decide_eq_true h1,cond_true]
  exact .some (.inr ⟨fun h => h.2.1 h1,rfl,hg⟩)
 rw [decide_eq_false h1,cond_false]
 have hdiv:=div_is k (hg.get c2) (s 1) (s 0)
 rw [if_neg h0] at hdiv
 have p1:ldPtr (m ++ [.live (bys 6 s)]) ⟨c,0,none⟩ = some (some ⟨f,0,none⟩):=ldPtr_of (hg.get c1) rfl
 simp (disch:=omega) only [SX,plus,p1,hdiv]
 generalize hx:GF.div (s 1) (s 0) = x at *
 have hx0:x ≠ 0:=fun h => by
  have:=GF.div_mul (a:=s 1) h0
  rw [hx,h,GF.zero_mul] at this
  exact h1 this.symm
 refine rs_Codec_one_l0_rule k _ _ (fun r x0 x1a x1n x1c x5 x7 x9 m' => (some ⟨c,0,none⟩:Option Addr) = x0 ∧ (some ⟨d,0,sp⟩:Option Addr) = x1a ∧ 64 = x1n ∧ cc = x1c ∧ ⟨m.length,0,none⟩ = x5 ∧ (x.v:Int) = x7 ∧ m ++ [.live (bys 6 s)] = m' ∧ ∃ j:Nat,x9 = j ∧ j + r = 6 ∧ 1 ≤ j ∧ ∀ i,1 ≤ i → i < j → s (i - 1) * x = s i) ?_ k 5 _ _ _ _ _ _ _ _ (by omega)
  ⟨rfl,rfl,rfl,rfl,rfl,rfl,rfl,1,rfl,by omega,by omega,fun i h2 h3 => by omega⟩
 rintro r nx _ _ _ _ _ _ _ _ ⟨rfl,rfl,rfl,rfl,rfl,rfl,rfl,j,rfl,hr,hj1,hs⟩ hnx
 unfold rs_Codec_one_l0_b
 by_cases hj:(j:Int) < 6
 ·have e1:=bys_ld (sp:=none) hl (i:=j - 1) (by omega)
  have e2:=bys_ld (sp:=none) hl (i:=j) (by omega)
  have e3:=mul_is k (hg.get c2) (s (j - 1)) x
  have tj:((j:Int) - 1).toNat = j - 1:=by omega
  have hi:inRange ((j:Int) - 1) 6 = true:=inRange_yes (by omega) (by omega)
  simp (disch:=omega) only [SX,plus,p1,hi,tj,e1,e3,e2,beq_self_eq_true,v_bne]
  by_cases h2:s (j - 1) * x = s j
  ·rw [decide_eq_true h2]
   simp (disch:=omega) only [SX,plus]
   refine hnx (r - 1) _ _ _ _ _ _ _ _ (by omega) ⟨rfl,rfl,rfl,rfl,rfl,rfl,rfl,j + 1,by omega,by omega,by omega,fun i h3 h4 => ?_⟩
   by_cases h5:i = j
   ·rw [h5];exact h2
   ·exact hs i h3 (by omega)
  ·rw [decide_eq_false h2]
   simp (disch:=omega) only [SX,plus]
   exact .some (.inr ⟨fun h => h2 (by have:=h.2.2.1 j hj1 (by omega);rwa [hx] at this),rfl,hg⟩)
 ·obtain rfl:j = 6:=by omega
  have e1:=log_is k (hg.get c2) hx0
  simp (disch:=omega) only [SX,plus,p1,e1]
  by_cases h2:(GF.lg x:Int) ≥ 64
  ·simp (disch:=omega) only [SX,plus]
   exact .some (.inr ⟨fun h => by have:=h.2.2.2;rw [hx] at this;omega,rfl,hg⟩)
  ·have tp:(63 - (GF.lg x:Int)).toNat = 63 - GF.lg x:=by omega
   have hi:inRange (63 - (GF.lg x:Int)) 64 = true:=inRange_yes (by omega) (by omega)
   have e2:=bys_ld (sp:=sp) (hg.get hw) (i:=63 - GF.lg x) (by omega)
   have e3:=bys_st (sp:=sp) (hg.get hw) (i:=63 - GF.lg x) (by omega) (w (63 - GF.lg x) + s 0)
   rw [wr_app (get_lt hw),put_flip] at e3
   simp (disch:=omega) only [SX,plus,rs_place,tp,hi,e2,l0,xor_v,e3,beq_self_eq_true]
   refine .some (.inl ⟨⟨h0,h1,by rw [hx];exact hs,by rw [hx];omega⟩,rfl,?_⟩)
   exact Gr.app _ _
omit hk hC hw in
theorem roots_succ (a b:GF) (n:Nat):GF.roots a b (n + 1) = GF.roots a b n ++ (if GF.isRoot a b n = true then [n] else []):=by
 unfold GF.roots
 rw [List.range_succ,List.filter_append,List.filter_cons,List.filter_nil]
omit hk hC hw in
theorem roots_mono (a b:GF) {n n':Nat} (h:n ≤ n'):(GF.roots a b n).length ≤ (GF.roots a b n').length:=by
 induction n' with
 | zero => rw [show n = 0 by omega];exact Nat.le_refl _
 | succ n' ih =>
  by_cases h1:n = n' + 1
  ·rw [h1];exact Nat.le_refl _
  ·have:=ih (by omega)
   rw [roots_succ,List.length_append];omega
omit hk hC hw in
theorem two_len {s:Nat → GF} (h:(GF.roots (GF.cA s) (GF.cB s) 64).length ≠ 2):GF.two s = none:=by
 unfold GF.two
 split
 ·rfl
 ·split
  ·rename_i a b hr;rw [hr] at h;exact absurd rfl h
  ·rfl
set_option maxHeartbeats 2000000 in
theorem two_ok (s:Nat → GF):Ok (rs_Codec_two k (some ⟨c,0,none⟩) (some ⟨d,0,sp⟩) 64 cc (bys 6 s) m) fun r => (∃ k0 k1 e,GF.two s = some (k0,k1,e) ∧ r.1 = 2 ∧ Gr (wr m d (bys 64 (GF.flip (GF.flip w (63 - k0) e) (63 - k1) (e + s 0)))) r.2) ∨ (GF.two s = none ∧ r.1 = 0 ∧ Gr m r.2):=by
 obtain ⟨f,b,c1,c2,c3⟩:=hC
 unfold rs_Codec_two
 have hb:Nat.beq (bys 6 s).length 6 = true:=by rw [bys_len];rfl
 have hg:Gr m (m ++ [.live (bys 6 s)]):=Gr.app _ _
 have hl:=get_last (m:=m) (o:=.live (bys 6 s)) rfl
 have l0:=bys_ld (sp:=none) hl (i:=0) (by omega)
 have l1:=bys_ld (sp:=none) hl (i:=1) (by omega)
 have l2:=bys_ld (sp:=none) hl (i:=2) (by omega)
 have l3:=bys_ld (sp:=none) hl (i:=3) (by omega)
 have t0:Int.toNat 0 = 0:=rfl
 have t1:Int.toNat 1 = 1:=rfl
 have t2:Int.toNat 2 = 2:=rfl
 have t3:Int.toNat 3 = 3:=rfl
 have p1:ldPtr (m ++ [.live (bys 6 s)]) ⟨c,0,none⟩ = some (some ⟨f,0,none⟩):=ldPtr_of (hg.get c1) rfl
 have hm:=mul_is k (hg.get c2)
 have hv:=div_is k (hg.get c2)
 have hdet:s 1 * s 1 + s 0 * s 2 = GF.det s:=rfl
 simp (disch:=omega) only [SX,plus,hb,t0,l0,t1,l1,t2,l2,t3,l3,p1,hm,xor_v,beq_self_eq_true,hdet,hv]
 by_cases hd:GF.det s = 0
 ·have h2:GF.two s = none:=by unfold GF.two;rw [if_pos hd]
  rw [if_pos hd]
  have e4:isNil (errC 4) = some false:=rfl
  simp (disch:=omega) only [SX,plus,e4]
  exact .some (.inr ⟨h2,rfl,hg⟩)
 rw [if_neg hd]
 simp (disch:=omega) only [SX,plus,hb,t0,l0,t1,l1,t2,l2,t3,l3,p1,hm,xor_v,beq_self_eq_true,hdet,hv]
 rw [if_neg hd]
 have ha:GF.div (s 1 * s 2 + s 0 * s 3) (GF.det s) = GF.cA s:=rfl
 have hbb:GF.div (s 2 * s 2 + s 1 * s 3) (GF.det s) = GF.cB s:=rfl
 have hlen:(m ++ [MObj.live (bys 6 s)]).length = m.length + 1:=by simp
 simp (disch:=omega) only [SX,plus,ha,hbb,hlen]
 have htwo:∀ L:List Nat,GF.roots (GF.cA s) (GF.cB s) 64 = L → GF.two s = match L with
  | [k0,k1] => if GF.part s k0 k1 = 0 ∨ GF.part s k0 k1 = s 0 then none else some (k0,k1,GF.part s k0 k1)
  | _ => none:=by
  rintro L rfl
  unfold GF.two
  rw [if_neg hd]
  all_goals rcases GF.roots (GF.cA s) (GF.cB s) 64 with _ | ⟨a,_ | ⟨b,_ | _⟩⟩ <;> rfl
 have hlong:=two_len (s:=s)
 have hnd:=GF.roots_nodup (GF.cA s) (GF.cB s) 64
 have hmem:=fun k => GF.roots_mem (a:=GF.cA s) (b:=GF.cB s) (n:=64) (k:=k)
 have hmono:=fun n (h:n ≤ 64) => roots_mono (GF.cA s) (GF.cB s) h
 have hsucc:=roots_succ (GF.cA s) (GF.cB s)
 generalize GF.cA s = A at *
 generalize GF.cB s = B at *
 refine rs_Codec_two_l0_rule k _ _ (fun r x1a x1n x1c x5 x7 x9 x11 x12 x13 x78 m' => (some ⟨d,0,sp⟩:Option Addr) = x1a ∧ 64 = x1n ∧ cc = x1c ∧ ⟨m.length,0,none⟩ = x5 ∧ (some ⟨f,0,none⟩:Option Addr) = x7 ∧ (A.v:Int) = x9 ∧ (B.v:Int) = x11 ∧ ⟨m.length + 1,0,none⟩ = x12 ∧ ∃ i:Nat,x78 = i ∧ i + r = 64 ∧ (GF.roots A B i).length ≤ 2 ∧ ((GF.roots A B i).length:Int) = x13 ∧ m' = m ++ [.live (bys 6 s)] ++ [.live [.int .i64 ((GF.roots A B i).getD 0 0:Nat),.int .i64 ((GF.roots A B i).getD 1 0:Nat)]]) ?_ k 64 _ _ _ _ _ _ _ _ _ _ _ (by omega)
  ⟨rfl,rfl,rfl,rfl,rfl,rfl,rfl,rfl,0,rfl,by omega,by simp [GF.roots],by simp [GF.roots],by simp [GF.roots]⟩
 rintro r nx _ _ _ _ _ _ _ _ _ _ _ ⟨rfl,rfl,rfl,rfl,rfl,rfl,rfl,rfl,i,rfl,hr,hL,rfl,rfl⟩ hnx
 unfold rs_Codec_two_l0_b
 generalize hm1:m ++ [MObj.live (bys 6 s)] = m1 at *
 by_cases hi:(i:Int) < 64
 ·have hs1:=hsucc i
  generalize GF.roots A B i = L at *
  have hG:Gr m1 (m1 ++ [.live [.int .i64 (L.getD 0 0:Nat),.int .i64 (L.getD 1 0:Nat)]]):=Gr.app _ _
  have hf:=hG.get (hg.get c2)
  have e1:=exp_is k hf i (by omega)
  have e2:=mul_is k hf
  simp (disch:=omega) only [SX,plus,e1,e2,xor_v,v_bne0]
  have hroot:decide (GF.pw i * GF.pw i + A * GF.pw i + B = 0) = GF.isRoot A B i:=rfl
  rw [hroot]
  cases hz:GF.isRoot A B i with
  | false =>
   rw [hz] at hs1
   simp only [Bool.false_eq_true,if_false,List.append_nil] at hs1
   simp (disch:=omega) only [SX,plus,rs_Codec_two_j1]
   exact hnx (r - 1) _ _ _ _ _ _ _ _ _ _ _ (by omega) ⟨rfl,rfl,rfl,rfl,rfl,rfl,rfl,rfl,i + 1,by omega,by omega,by rw [hs1];exact hL,by rw [hs1],by rw [hs1]⟩
  | true =>
   rw [hz] at hs1
   simp only [if_true] at hs1
   by_cases h2:L.length = 2
   ·have h2':((L.length:Int) == 2) = true:=beqI_yes (by omega)
    simp (disch:=omega) only [SX,plus,h2']
    refine .some (.inr ⟨hlong ?_,rfl,hg.trans hG⟩)
    have:=hmono (i + 1) (by omega)
    rw [hs1,List.length_append] at this
    simp only [List.length_cons,List.length_nil] at this
    omega
   ·have h2':((L.length:Int) == 2) = false:=beqI_no (by omega)
    have hl1:=get_last (m:=m1) (o:=.live [.int .i64 (L.getD 0 0:Nat),.int .i64 (L.getD 1 0:Nat)]) hlen
    have e3:=st_wr (sp:=none) (off:=L.length) (v:=.int .i64 i) hl1 (by simp;omega)
    rw [wr_last hlen] at e3
    simp (disch:=omega) only [SX,plus,h2',e3,rs_Codec_two_j1]
    refine hnx (r - 1) _ _ _ _ _ _ _ _ _ _ _ (by omega) ⟨rfl,rfl,rfl,rfl,rfl,rfl,rfl,rfl,i + 1,by omega,by omega,?_,?_,?_⟩
    ·rw [hs1,List.length_append];simp;omega
    ·rw [hs1,List.length_append];simp
    ·rw [hs1]
     match L,hL,h2 with
     | [],_,_ => rfl
     | [x],_,_ => rfl
     | [x,y],_,h => exact absurd rfl h
 ·obtain rfl:i = 64:=by omega
  generalize hR:GF.roots A B 64 = L at *
  by_cases h2:L.length = 2
  ·match L,h2 with
   | [k0,k1],_ =>
    have htw:=htwo _ rfl
    simp only at htw
    have q0:=((hmem k0).1 (by simp)).1
    have q1:=((hmem k1).1 (by simp)).1
    have hne:k0 ≠ k1:=by simpa using hnd
    have hX:GF.pw k0 + GF.pw k1 ≠ 0:=fun h => hne (GF.pw_inj (by omega) (by omega) (GF.add_eq_zero.1 h))
    have b2:((([k0,k1]:List Nat).length:Int) != 2) = false:=rfl
    have g0:([k0,k1]:List Nat).getD 0 0 = k0:=rfl
    have g1:([k0,k1]:List Nat).getD 1 0 = k1:=rfl
    rw [g0,g1] at *
    have hG:Gr m1 (m1 ++ [.live [.int .i64 (k0:Nat),.int .i64 (k1:Nat)]]):=Gr.app _ _
    have hl1:=get_last (m:=m1) (o:=.live [.int .i64 (k0:Nat),.int .i64 (k1:Nat)]) hlen
    have a0:ldInt .i64 (m1 ++ [.live [.int .i64 (k0:Nat),.int .i64 (k1:Nat)]]) ⟨m.length + 1,0,none⟩ = some (k0:Int):=ldInt_of hl1 rfl
    have a1:ldInt .i64 (m1 ++ [.live [.int .i64 (k0:Nat),.int .i64 (k1:Nat)]]) ⟨m.length + 1,1,none⟩ = some (k1:Int):=ldInt_of hl1 rfl
    have hf:=hG.get (hg.get c2)
    have e0:=exp_is k hf k0 (by omega)
    have e1:=exp_is k hf k1 (by omega)
    have e2:=mul_is k hf
    have e3:=div_is k hf (s 1 + s 0 * GF.pw k1) (GF.pw k0 + GF.pw k1)
    rw [if_neg hX] at e3
    have hp:GF.div (s 1 + s 0 * GF.pw k1) (GF.pw k0 + GF.pw k1) = GF.part s k0 k1:=rfl
    rw [hp] at e3
    have j0:=bys_ld (sp:=none) (hG.get hl) (i:=0) (by omega)
    have j1:=bys_ld (sp:=none) (hG.get hl) (i:=1) (by omega)
    simp (disch:=omega) only [SX,plus,b2,a0,a1,e0,e1,beq_self_eq_true,t0,t1,j0,j1,e2,xor_v,e3,v_beq0,v_beq]
    generalize GF.part s k0 k1 = e at *
    by_cases he0:e = 0
    ·rw [if_pos (.inl he0)] at htw
     rw [decide_eq_true he0,cond_true]
     exact .some (.inr ⟨htw,rfl,hg.trans hG⟩)
    rw [decide_eq_false he0,cond_false]
    by_cases he1:e = s 0
    ·rw [if_pos (.inr he1)] at htw
     rw [decide_eq_true he1,cond_true]
     exact .some (.inr ⟨htw,rfl,hg.trans hG⟩)
    rw [decide_eq_false he1,cond_false]
    rw [if_neg (fun h => h.elim he0 he1)] at htw
    have tp0:(63 - (k0:Int)).toNat = 63 - k0:=by omega
    have tp1:(63 - (k1:Int)).toNat = 63 - k1:=by omega
    have i0:inRange (63 - (k0:Int)) 64 = true:=inRange_yes (by omega) (by omega)
    have i1:inRange (63 - (k1:Int)) 64 = true:=inRange_yes (by omega) (by omega)
    have u0:=bys_ld (sp:=sp) (hG.get (hg.get hw)) (i:=63 - k0) (by omega)
    have u1:=bys_st (sp:=sp) (hG.get (hg.get hw)) (i:=63 - k0) (by omega) (w (63 - k0) + e)
    have hdlt:=get_lt hw
    rw [wr_app (by rw [hlen];omega),← hm1,wr_app hdlt,put_flip] at u1
    have hM:(wr m d (bys 64 (GF.flip w (63 - k0) e))).length = m.length:=wr_len
    have n0:(wr m d (bys 64 (GF.flip w (63 - k0) e)) ++ [MObj.live (bys 6 s)])[m.length]? = some (.live (bys 6 s)):=get_last hM
    have n1:=get_last (m:=wr m d (bys 64 (GF.flip w (63 - k0) e)) ++ [MObj.live (bys 6 s)]) (n:=m.length + 1) (o:=.live [.int .i64 (k0:Nat),.int .i64 (k1:Nat)]) (by simp [hM])
    have v0:=bys_ld (sp:=none) (get_grow (g:=[.live [.int .i64 (k0:Nat),.int .i64 (k1:Nat)]]) n0) (i:=0) (by omega)
    have v1:ldInt .i64 (wr m d (bys 64 (GF.flip w (63 - k0) e)) ++ [MObj.live (bys 6 s)] ++ [.live [.int .i64 (k0:Nat),.int .i64 (k1:Nat)]]) ⟨m.length + 1,1,none⟩ = some (k1:Int):=ldInt_of n1 rfl
    have hw2:(wr m d (bys 64 (GF.flip w (63 - k0) e)) ++ [MObj.live (bys 6 s)] ++ [MObj.live [.int .i64 (k0:Nat),.int .i64 (k1:Nat)]])[d]? = some (.live (bys 64 (GF.flip w (63 - k0) e))):=get_grow (get_grow (wr_get hw))
    have u2:=bys_ld (sp:=sp) hw2 (i:=63 - k1) (by omega)
    have u3:=bys_st (sp:=sp) hw2 (i:=63 - k1) (by omega) (GF.flip w (63 - k0) e (63 - k1) + (e + s 0))
    rw [wr_app (by simp [hM];omega),wr_app (by rw [hM];exact hdlt),wr_wr,put_flip] at u3
    rw [← hm1]
    rw [← hm1] at u0 a0
    simp (disch:=omega) only [SX,plus,rs_place,i0,tp0,u0,xor_v,u1,v1,i1,tp1,u2,v0,u3,beq_self_eq_true,a0]
    exact .some (.inl ⟨k0,k1,e,htw,rfl,(Gr.app _ _).trans (Gr.app _ _)⟩)
  ·have b2:((L.length:Int) != 2) = true:=bneI_yes (by omega)
   simp (disch:=omega) only [SX,plus,b2]
   exact .some (.inr ⟨hlong h2,rfl,hg.trans (Gr.app _ _)⟩)
end
end Go.Proofs.YtchonnaoojpdoaaGreat
set_option linter.unusedVariables false
set_option linter.unusedSectionVars false
set_option linter.unusedSimpArgs false
namespace Go.Proofs.YtchonnaoojpdoaaGreat
open Go.Mx
namespace GF
theorem dec_code {w:Nat → GF} (h:Code w):dec w = some (w,0):=by unfold dec;rw [if_pos h]
theorem dec_yes {w c:Nat → GF} {n:Nat} (h:¬ Code w) (hf:fix w = some (c,n)) (hc:Code c):dec w = some (c,n):=by
 unfold dec;rw [if_neg h,hf];simp only [if_pos hc]
theorem dec_no {w c:Nat → GF} {n:Nat} (h:¬ Code w) (hf:fix w = some (c,n)) (hc:¬ Code c):dec w = none:=by
 unfold dec;rw [if_neg h,hf];simp only [if_neg hc]
theorem dec_none {w:Nat → GF} (h:¬ Code w) (hf:fix w = none):dec w = none:=by
 unfold dec;rw [if_neg h,hf]
theorem fix_one {w:Nat → GF} (h:oneOk (syn w)):fix w = some (flip w (63 - lg (div (syn w 1) (syn w 0))) (syn w 0),1):=by unfold fix;rw [if_pos h]
theorem fix_two {w:Nat → GF} (h:¬ oneOk (syn w)) {k0 k1:Nat} {e:GF} (ht:two (syn w) = some (k0,k1,e)):fix w = some (flip (flip w (63 - k0) e) (63 - k1) (e + syn w 0),2):=by unfold fix;rw [if_neg h,ht]
theorem fix_none {w:Nat → GF} (h:¬ oneOk (syn w)) (ht:two (syn w) = none):fix w = none:=by unfold fix;rw [if_neg h,ht]
end GF
section
variable (k:Nat) (hk:1000 < k) {m:Mem} {c:Nat}
include hk
theorem decode_j1 {M:Mem} (hC:Cod M c) {d:Nat} {u:Nat → GF} (hu:M[d]? = some (.live (bys 64 u))) (hg:Gr m M) (hd:m.length ≤ d) {n:Nat} (hn:n ≠ 0) (M2:Mem) :
 Ok (rs_Codec_Decode_j1 k (some ⟨c,0,none⟩) (⟨some ⟨d,0,some 1⟩,64,64⟩,M2) n M) fun r => Gr m r.2.2.2 ∧ ((GF.Code u ∧ r.1 = ⟨some ⟨d,0,none⟩,58,58⟩ ∧ r.2.1 = n ∧ r.2.2.1 = .nilIface ∧ r.2.2.2[d]? = some (.live (bys 64 u))) ∨ (¬ GF.Code u ∧ r.1 = ⟨none,0,0⟩ ∧ r.2.1 = 0 ∧ r.2.2.1 = errC 5)):=by
 unfold rs_Codec_Decode_j1
 have h0:((n:Int) == 0) = false:=beqI_no (by omega)
 simp (disch:=omega) only [SX,plus,h0]
 refine .bind (syn_ok k hk hC (Src.of (sp:=some 1) hu)) ?_
 rintro ⟨_,m1⟩ ⟨rfl,hg1⟩
 simp only at hg1 ⊢
 obtain ⟨b,e1,e2⟩:=syn_zero (GF.syn u)
 have hz:repl 6 [.int .u8 0] = bys 6 fun _ => 0:=bys_zero 6
 rw [hz]
 simp (disch:=omega) only [SX,plus,e1]
 cases b with
 | true =>
  have hcl:sliceK.clear (some ⟨d,0,some 1⟩) true = some ⟨d,0,none⟩:=rfl
  have t58:Int.toNat 58 = 58:=rfl
  have i1:inUpto 58 64 = true:=rfl
  have i2:inUpto 58 58 = true:=rfl
  simp (disch:=omega) only [SX,plus,hcl,t58,i1,i2,Bool.and_self]
  exact .some ⟨hg.trans hg1,.inl ⟨e2.1 rfl,rfl,rfl,rfl,hg1.get hu⟩⟩
 | false =>
  simp (disch:=omega) only [SX,plus]
  exact .some ⟨hg.trans hg1,.inr ⟨fun h => (by have:=e2.2 h;cases this),rfl,rfl,rfl⟩⟩
theorem decode_ok (hC:Cod m c) {a:Option Addr} {cc:Nat} {w:Nat → GF} (hw:Src m a 64 w) :
 Ok (rs_Codec_Decode k (some ⟨c,0,none⟩) a 64 cc m) fun r => Gr m r.2.2.2 ∧ ((∃ u n d,GF.dec w = some (u,n) ∧ r.1 = ⟨some ⟨d,0,none⟩,58,58⟩ ∧ r.2.1 = (n:Nat) ∧ r.2.2.1 = .nilIface ∧ m.length ≤ d ∧ r.2.2.2[d]? = some (.live (bys 64 u))) ∨
  (GF.dec w = none ∧ r.1 = ⟨none,0,0⟩ ∧ r.2.1 = 0 ∧ r.2.2.1 = errC 5)):=by
 unfold rs_Codec_Decode
 have h64:(((64:Nat):Int) != 64) = false:=rfl
 have hw':rdSl m a 64 1 = some (bys 64 w):=hw
 have e1:=appM_first (z:=1) (y:=1) (m:=m) (l:=64) (new:=bys 64 w) (by omega) (by unfold most;omega) (by unfold most;omega)
 simp (disch:=omega) only [SX,plus,h64,hw',e1]
 have hg0:Gr m (m ++ [.live (bys 64 w)]):=Gr.app _ _
 have hd0:=get_last (m:=m) (o:=.live (bys 64 w)) rfl
 refine .bind (syn_ok k hk (hC.grow hg0) (Src.of (sp:=some 1) hd0)) ?_
 rintro ⟨_,m2⟩ ⟨rfl,hg2⟩
 simp only at hg2 ⊢
 generalize hm1:m ++ [MObj.live (bys 64 w)] = m1 at *
 have hb:Nat.beq (bys 6 (GF.syn w)).length 6 = true:=by rw [bys_len];rfl
 have hl:=get_last (m:=m2) (o:=.live (bys 6 fun _ => 0)) rfl
 have e2:=bys_stc (sp:=none) (u:=GF.syn w) hl (o:=0) (l:=6) (by omega)
 rw [wr_last rfl,bys_congr (n:=6) (u:=fun i => if 0 ≤ i ∧ i < 0 + 6 then GF.syn w (i - 0) else 0) (w:=GF.syn w) fun k hk => if_pos (by omega)] at e2
 have hl5:=get_last (m:=m2) (o:=.live (bys 6 (GF.syn w))) rfl
 have e3:=bys_ldc (sp:=none) hl5
 obtain ⟨b,e4,e5⟩:=syn_zero (GF.syn w)
 have hz:repl 6 [.int .u8 0] = bys 6 fun _ => 0:=bys_zero 6
 rw [hz]
 simp (disch:=omega) only [SX,plus,hb,e2,e3,e4]
 have hg5:Gr m2 (m2 ++ [.live (bys 6 (GF.syn w))]):=Gr.app _ _
 have hcl:sliceK.clear (some ⟨m.length,0,some 1⟩) true = some ⟨m.length,0,none⟩:=rfl
 have t58:Int.toNat 58 = 58:=rfl
 have i1:inUpto 58 64 = true:=rfl
 have i2:inUpto 58 58 = true:=rfl
 cases b with
 | true =>
  simp (disch:=omega) only [SX,plus,hcl,t58,i1,i2,Bool.and_self]
  exact .some ⟨(hg0.trans hg2).trans hg5,.inl ⟨w,0,m.length,GF.dec_code (e5.1 rfl),rfl,rfl,rfl,Nat.le_refl _,hg5.get (hg2.get hd0)⟩⟩
 | false =>
  have hno:¬ GF.Code w:=fun h => by have:=e5.2 h;cases this
  have hG:=(hg0.trans hg2).trans hg5
  simp (disch:=omega) only [SX,plus,e3]
  refine .bind (one_ok k hk (cc:=64) (sp:=some 1) (hC.grow hG) (hg5.get (hg2.get hd0)) (GF.syn w)) ?_
  rintro ⟨_,m6⟩ (⟨ho,rfl,hg6⟩ | ⟨ho,rfl,hg6⟩)
  ·simp only at hg6 ⊢
   have b1:((1:Int) == 0) = false:=rfl
   simp (disch:=omega) only [SX,plus,b1]
   have hG6:=(hG.wr (Nat.le_refl _) (bys 64 (GF.flip w (63 - GF.lg (GF.div (GF.syn w 1) (GF.syn w 0))) (GF.syn w 0)))).trans hg6
   refine (decode_j1 k hk (hC.grow hG6) (hg6.get (wr_get (hg5.get (hg2.get hd0)))) hG6 (Nat.le_refl _) (n:=1) (by omega) _).mono ?_
   rintro r ⟨p1,⟨q1,q2,q3,q4,q5⟩ | ⟨q1,q2,q3,q4⟩⟩
   ·exact ⟨p1,.inl ⟨_,1,_,GF.dec_yes hno (GF.fix_one ho) q1,q2,q3,q4,Nat.le_refl _,q5⟩⟩
   ·exact ⟨p1,.inr ⟨GF.dec_no hno (GF.fix_one ho) q1,q2,q3,q4⟩⟩
  ·simp only at hg6 ⊢
   have b1:((0:Int) == 0) = true:=rfl
   have e6:=bys_ldc (sp:=none) (hg6.get hl5)
   have hG6:=hG.trans hg6
   have hd6:=hg6.get (hg5.get (hg2.get hd0))
   simp (disch:=omega) only [SX,plus,b1,e6]
   refine .bind (two_ok k hk (cc:=64) (sp:=some 1) (hC.grow hG6) hd6 (GF.syn w)) ?_
   rintro ⟨_,m7⟩ (⟨k0,k1,e,ht,rfl,hg7⟩ | ⟨ht,rfl,hg7⟩)
   ·simp only at hg7 ⊢
    have hG7:=(hG6.wr (Nat.le_refl _) (bys 64 (GF.flip (GF.flip w (63 - k0) e) (63 - k1) (e + GF.syn w 0)))).trans hg7
    refine (decode_j1 k hk (hC.grow hG7) (hg7.get (wr_get hd6)) hG7 (Nat.le_refl _) (n:=2) (by omega) _).mono ?_
    rintro r ⟨p1,⟨q1,q2,q3,q4,q5⟩ | ⟨q1,q2,q3,q4⟩⟩
    ·exact ⟨p1,.inl ⟨_,2,_,GF.dec_yes hno (GF.fix_two ho ht) q1,q2,q3,q4,Nat.le_refl _,q5⟩⟩
    ·exact ⟨p1,.inr ⟨GF.dec_no hno (GF.fix_two ho ht) q1,q2,q3,q4⟩⟩
   ·simp only at hg7 ⊢
    unfold rs_Codec_Decode_j1
    simp (disch:=omega) only [SX,plus,b1]
    exact .some ⟨hG6.trans hg7,.inr ⟨GF.dec_none hno (GF.fix_none ho ht),rfl,rfl,rfl⟩⟩
end
end Go.Proofs.YtchonnaoojpdoaaGreat
set_option linter.unusedVariables false
set_option linter.unusedSectionVars false
set_option linter.unusedSimpArgs false
namespace Go.Proofs.YtchonnaoojpdoaaGreat
open Go.Mx
end Go.Proofs.YtchonnaoojpdoaaGreat
set_option linter.unusedVariables false
set_option linter.unusedSectionVars false
set_option linter.unusedSimpArgs false
namespace Go.Proofs.YtchonnaoojpdoaaGreat
open Go.Mx
namespace GF
def fits (s:Nat → GF) (a:GF) (x:Nat) (b:GF) (y:Nat):Prop:=∀ j,j < 6 → a * pw (j * x) + b * pw (j * y) = s j
def aOf (s:Nat → GF) (x y:Nat):GF:=div (s 1 + s 0 * pw y) (pw x + pw y)
theorem dec_of {w u:Nat → GF} {n:Nat} (hu:Code u) (hd:df w u = n) (hn:n ≤ 2):∃ v,dec w = some (v,n) ∧ ∀ i,i < 64 → v i = u i:=by
 rcases dec_spec w with ⟨v,n',h1,h2,h3,h4⟩ | ⟨_,h2⟩
 ·have hv:=h2.near hu (by have:=df_tri v w u;have:=df_comm v w;omega)
  have:n' = n:=by
   rw [← h3,← hd]
   exact wt_congr fun i hi => by rw [hv i hi]
  subst this
  exact ⟨v,h1,hv⟩
 ·have:=h2 u hu;omega
theorem try_one {w:Nat → GF} (h0:¬ Code w) {i:Nat} (hi:i < 64) (hf:fits (syn w) (syn w 0) (63 - i) 0 0):∃ v,dec w = some (v,1) ∧ ∀ t,t < 64 → v t = flip w i (syn w 0) t:=by
 have hs:syn w 0 ≠ 0:=fun h => h0 fun j hj => by
  rw [← hf j hj,h,zero_mul,zero_mul,add_zero]
 refine dec_of (fun j hj => ?_) (df_flip w hi hs) (by omega)
 rw [syn_flip w hi,← hf j hj,zero_mul,add_zero,add_self]
theorem try_two {w:Nat → GF} {i k:Nat} (hi:i < k) (hk:k < 64) {a:GF} (ha:a ≠ 0) (hb:syn w 0 + a ≠ 0) (hf:fits (syn w) a (63 - i) (syn w 0 + a) (63 - k)):∃ v,dec w = some (v,2) ∧ ∀ t,t < 64 → v t = flip (flip w i a) k (syn w 0 + a) t:=by
 refine dec_of (fun j hj => ?_) (df_flip2 w (by omega) hk (by omega) ha hb) (by omega)
 rw [syn_flip _ hk,syn_flip w (by omega),← hf j hj]
 simp only [add_assoc,add_comm,add_left_comm,add_self,add_cancel,add_zero,zero_add]
theorem try_none {w:Nat → GF} (h0:¬ Code w) (h1:∀ i,i < 64 → ¬ fits (syn w) (syn w 0) (63 - i) 0 0)
 (h2:∀ i k,i < k → k < 64 → ¬ (aOf (syn w) (63 - i) (63 - k) ≠ 0 ∧ syn w 0 + aOf (syn w) (63 - i) (63 - k) ≠ 0 ∧ fits (syn w) (aOf (syn w) (63 - i) (63 - k)) (63 - i) (syn w 0 + aOf (syn w) (63 - i) (63 - k)) (63 - k))):dec w = none:=by
 rcases dec_spec w with ⟨c,n,e,hc,hd,hn⟩ | ⟨e,_⟩
 ·exfalso
  have hs:∀ j,j < 6 → syn w j = syn (fun i => w i + c i) j:=fun j hj => by rw [syn_add,hc j hj,add_zero]
  have hz:df w c ≠ 0:=fun h => h0 (hc.congr (df_zero h))
  by_cases hd1:df w c = 1
  ·obtain ⟨i0,a1,a2,a3⟩:=wt_one hd1
   have hp:∀ j,j < 6 → syn w j = (w i0 + c i0) * pw (j * (63 - i0)):=by
    intro j hj
    rw [hs j hj]
    unfold syn
    rw [sum_one a1 fun i hi hne => by show (w i + c i) * _ = 0;rw [a3 i hi hne,zero_mul]]
   refine h1 i0 a1 fun j hj => ?_
   have q0:syn w 0 = w i0 + c i0:=by rw [hp 0 (by omega),Nat.zero_mul,pw_zero,mul_one]
   rw [zero_mul,add_zero,hp j hj,q0]
  ·obtain ⟨i0,i1,a1,a2,a3,a4,a5⟩:=wt_two (show wt (fun i => w i + c i) 64 = 2 by unfold df at hd hz hd1;omega)
   have hp:∀ j,j < 6 → syn w j = (w i0 + c i0) * pw (j * (63 - i0)) + (w i1 + c i1) * pw (j * (63 - i1)):=fun j hj => by rw [hs j hj,syn_two a1 a2 a5]
   have q0:syn w 0 = (w i0 + c i0) + (w i1 + c i1):=by rw [hp 0 (by omega),Nat.zero_mul,Nat.zero_mul,pw_zero,mul_one,mul_one]
   have q1:syn w 1 = (w i0 + c i0) * pw (63 - i0) + (w i1 + c i1) * pw (63 - i1):=by rw [hp 1 (by omega),Nat.one_mul,Nat.one_mul]
   have hX:pw (63 - i0) + pw (63 - i1) ≠ 0:=fun h => by have:=pw_inj (by omega) (by omega) (add_eq_zero.1 h);omega
   have hA:aOf (syn w) (63 - i0) (63 - i1) = w i0 + c i0:=by
    unfold aOf
    rw [q0,q1]
    generalize w i0 + c i0 = E
    generalize w i1 + c i1 = F
    generalize pw (63 - i0) = X at *
    generalize pw (63 - i1) = Y at *
    rw [show E * X + F * Y + (E + F) * Y = E * (X + Y) by
     simp only [mul_add,add_mul,mul_assoc,mul_comm,mul_left_comm,add_assoc,add_comm,add_left_comm,add_self,add_cancel,add_zero,zero_add],mul_div hX]
   have hB:syn w 0 + (w i0 + c i0) = w i1 + c i1:=by rw [q0,add_comm (w i0 + c i0),add_assoc,add_self,add_zero]
   refine h2 i0 i1 a1 a2 ⟨by rw [hA];exact a3,by rw [hA,hB];exact a4,fun j hj => ?_⟩
   rw [hA,hB,hp j hj]
 ·exact e
end GF
def Tab (m:Mem) (e l:Nat):Prop:=m[e]? = some (.live (bys 255 GF.pw)) ∧ m[l]? = some (.live (arr .i64 256 lT))
theorem Tab.lg {m:Mem} {e l:Nat} (h:Tab m e l) {a:GF} (ha:a ≠ 0):ldInt .i64 m ⟨l,a.v,none⟩ = some (GF.lg a:Int):=by
 have h1:=a.v_lt
 have:=arr_ldn (sp:=none) (i:=a.v) h.2 (by omega)
 rw [lT_of ha] at this
 exact this
theorem Tab.ex {m:Mem} {e l:Nat} (h:Tab m e l) {z:Int} (h0:0 ≤ z):ldInt .u8 m ⟨e,(z % 255).toNat,none⟩ = some ((GF.pw z.toNat).v:Int):=by
 have:=bys_ld (sp:=none) h.1 (i:=(z % 255).toNat) (by omega)
 rw [this,show (z % 255).toNat = z.toNat % 255 by omega,GF.pw_mod]
theorem tables_ok (k:Nat) (hk:1000 < k) (m:Mem):Ok (patinaref02_tables k m) fun r => r.1 = ⟨some ⟨m.length,0,none⟩,255,255⟩ ∧ r.2.1 = ⟨some ⟨m.length + 1,0,none⟩,256,256⟩ ∧ Gr m r.2.2 ∧ Tab r.2.2 m.length (m.length + 1):=by
 unfold patinaref02_tables
 have t255:Int.toNat 255 = 255:=rfl
 have t256:Int.toNat 256 = 256:=rfl
 have hlen:(m ++ [MObj.live (bys 255 fun _ => 0)]).length = m.length + 1:=by simp
 simp (disch:=omega) only [SX,plus,t255,t256,bys_zero,repl_int (k:=.i64),hlen]
 refine patinaref02_tables_l0_rule k _ (fun r x2a x2n x2c x3a x3n x3c x4 x5 m' => (some ⟨m.length,0,none⟩:Option Addr) = x2a ∧ 255 = x2n ∧ 255 = x2c ∧ (some ⟨m.length + 1,0,none⟩:Option Addr) = x3a ∧ 256 = x3n ∧ 256 = x3c ∧ ∃ (j:Nat) (l:Int → Int),x5 = j ∧ j + r = 255 ∧ ((GF.pw j).v:Int) = x4 ∧
  (∀ i:Int,0 ≤ i → i < 256 → (i = 0 ∨ (j:Int) ≤ lT i) ∧ l i = 0 ∨ i ≠ 0 ∧ lT i < j ∧ l i = lT i) ∧ m' = m ++ [.live (bys 255 fun i => if i < j then GF.pw i else 0)] ++ [.live (arr .i64 256 l)]) ?_ k 255 _ _ _ _ _ _ _ _ _ (by omega)
  ⟨rfl,rfl,rfl,rfl,rfl,rfl,0,_,rfl,by omega,rfl,fun i h0 h1 => .inl ⟨by
   by_cases h2:i = 0
   ·exact .inl h2
   ·right;unfold lT;rw [if_neg h2];omega,rfl⟩,by
   rw [bys_congr (u:=fun i => if i < 0 then GF.pw i else 0) (w:=fun _ => 0) fun i hi => if_neg (by omega)]⟩
 rintro r nx _ _ _ _ _ _ _ _ _ ⟨rfl,rfl,rfl,rfl,rfl,rfl,j,l,rfl,hr,rfl,hl,rfl⟩ hnx
 unfold patinaref02_tables_l0_b
 have hlj:(m ++ [MObj.live (bys 255 fun i => if i < j then GF.pw i else 0)]).length = m.length + 1:=by simp
 by_cases hj:(j:Int) < 255
 ·have hv:=(GF.pw j).v_lt
  have hm0:(m ++ [MObj.live (bys 255 fun i => if i < j then GF.pw i else 0)] ++ [MObj.live (arr .i64 256 l)])[m.length]? = some (.live (bys 255 fun i => if i < j then GF.pw i else 0)):=get_grow (get_last rfl)
  have e1:=bys_st (sp:=none) hm0 (i:=j) (by omega) (GF.pw j)
  have hP:(bys 255 (put (fun i => if i < j then GF.pw i else 0) j (GF.pw j))) = bys 255 fun i => if i < j + 1 then GF.pw i else 0:=bys_congr fun i hi => by
   unfold put
   by_cases h1:i = j
   ·rw [if_pos h1,if_pos (by omega),h1]
   ·rw [if_neg h1];dsimp only
    by_cases h2:i < j
    ·rw [if_pos h2,if_pos (show i < j + 1 by omega)]
    ·rw [if_neg h2,if_neg (show ¬ i < j + 1 by omega)]
  rw [wr_app (by simp),wr_last rfl,hP] at e1
  have hlj2:(m ++ [MObj.live (bys 255 fun i => if i < j + 1 then GF.pw i else 0)]).length = m.length + 1:=by simp
  have e2:=arr_st (sp:=none) (x:=((GF.pw j).v:Int)) (v:=(j:Int)) (get_last (o:=.live (arr .i64 256 l)) hlj2) (by omega) (by omega)
  rw [wr_last hlj2,Int.toNat_natCast] at e2
  have e3:=fun M => refMul_is k hk (GF.pw j) (GF.pw 1) M
  simp only [GF.pw_pw,show ((GF.pw 1).v:Int) = 2 from rfl] at e3
  simp (disch:=omega) only [SX,plus,e1,e2,e3]
  refine hnx (r - 1) _ _ _ _ _ _ _ _ _ (by omega) ⟨rfl,rfl,rfl,rfl,rfl,rfl,j + 1,_,by omega,by omega,rfl,fun i h0 h1 => ?_,rfl⟩
  have hlp:lT ((GF.pw j).v:Int) = (j:Int):=by rw [lT_of GF.pw_ne,GF.lg_pw (by omega)]
  unfold upd
  by_cases c1:i = ((GF.pw j).v:Int)
  ·right
   have:=GF.v_ne (GF.pw_ne (n:=j))
   rw [if_pos c1,c1,hlp]
   exact ⟨by omega,by omega,rfl⟩
  ·rw [if_neg c1]
   rcases hl i h0 h1 with ⟨b1,b2⟩ | ⟨b1,b2,b3⟩
   ·left
    refine ⟨?_,b2⟩
    rcases b1 with b1 | b1
    ·exact .inl b1
    ·by_cases b3:i = 0
     ·exact .inl b3
     ·right
      have:lT i ≠ (j:Int):=by
       intro h5
       apply c1
       have h6:lT i = (GF.lg (GF.of i.toNat):Int):=by unfold lT;rw [if_neg b3]
       have h7:GF.of i.toNat ≠ 0:=fun h8 => by
        have:=congrArg GF.v h8
        rw [GF.v_of (by omega)] at this
        have h9:GF.v 0 = 0:=rfl
        omega
       have h8:=GF.pw_lg h7
       rw [show GF.lg (GF.of i.toNat) = j by omega] at h8
       rw [h8,GF.v_of (by omega)];omega
      omega
   ·right;exact ⟨b1,by omega,b3⟩
 ·obtain rfl:j = 255:=by omega
  simp (disch:=omega) only [SX,plus]
  refine .some ⟨rfl,rfl,(Gr.app _ _).trans (Gr.app _ _),?_,?_⟩
  ·rw [get_grow (get_last rfl),bys_congr (u:=fun i => if i < 255 then GF.pw i else 0) (w:=GF.pw) fun i hi => if_pos hi]
  ·rw [get_last hlj,arr_congr (f:=l) (g:=lT) fun i h0 h1 => ?_]
   rcases hl i h0 (by omega) with ⟨b1 | b1,b2⟩ | ⟨b1,b2,b3⟩
   ·subst b1;rw [b2];rfl
   ·by_cases b3:i = 0
    ·subst b3;rw [b2];rfl
    ·exfalso
     have h7:GF.of i.toNat ≠ 0:=fun h8 => by
      have:=congrArg GF.v h8
      rw [GF.v_of (by omega)] at this
      have h9:GF.v 0 = 0:=rfl
      omega
     have:=GF.lg_lt h7
     unfold lT at b1
     rw [if_neg b3] at b1
     omega
   ·exact b3
theorem fits_is (k:Nat) (hk:1000 < k) {m:Mem} {sa:Option Addr} {sc:Nat} {s:Nat → GF} {e l:Nat} (hs:Src m sa 6 s) (hT:Tab m e l) (a b:GF) {x y:Nat} (hx:x < 64) (hy:y < 64) :
 ∃ z,patinaref02_fits k sa 6 sc (some ⟨e,0,none⟩) 255 255 (some ⟨l,0,none⟩) 256 256 (a.v:Int) x (b.v:Int) y m = some (z,m) ∧ (z = true ↔ GF.fits s a x b y):=by
 have key:Ok (patinaref02_fits k sa 6 sc (some ⟨e,0,none⟩) 255 255 (some ⟨l,0,none⟩) 256 256 (a.v:Int) x (b.v:Int) y m) fun r => r.2 = m ∧ (r.1 = true ↔ GF.fits s a x b y):=by
  unfold patinaref02_fits
  refine patinaref02_fits_l0_rule k _ _ (fun r x0a x0n x0c x1a x1n x1c x2a x2n x2c x3 x4 x5 x6 x15 m' => sa = x0a ∧ 6 = x0n ∧ sc = x0c ∧ (some ⟨e,0,none⟩:Option Addr) = x1a ∧ 255 = x1n ∧ 255 = x1c ∧ (some ⟨l,0,none⟩:Option Addr) = x2a ∧ 256 = x2n ∧ 256 = x2c ∧ (a.v:Int) = x3 ∧ (x:Int) = x4 ∧ (b.v:Int) = x5 ∧ (y:Int) = x6 ∧ m = m' ∧ ∃ j:Nat,x15 = j ∧ j + r = 6 ∧ ∀ i,i < j → a * GF.pw (i * x) + b * GF.pw (i * y) = s i) ?_ k 6 _ _ _ _ _ _ _ _ _ _ _ _ _ _ _ (by omega)
   ⟨rfl,rfl,rfl,rfl,rfl,rfl,rfl,rfl,rfl,rfl,rfl,rfl,rfl,rfl,0,rfl,by omega,fun i hi => by omega⟩
  rintro r nx _ _ _ _ _ _ _ _ _ _ _ _ _ _ _ ⟨rfl,rfl,rfl,rfl,rfl,rfl,rfl,rfl,rfl,rfl,rfl,rfl,rfl,rfl,j,rfl,hr,he⟩ hnx
  unfold patinaref02_fits_l0_b
  have ha:=a.v_lt
  have hb:=b.v_lt
  by_cases hj:(j:Int) < ((6:Nat):Int)
  ·obtain ⟨ad,rfl,e1⟩:=hs.ld (i:=j) (by omega)
   unfold plus at e1
   have i6:inRange (j:Int) 6 = true:=inRange_yes (by omega) (by omega)
   have term:∀ (c:GF) (z:Nat),z < 64 → c ≠ 0 → 0 ≤ (j:Int) * z ∧ (j:Int) * z < 1000 ∧ ldInt .u8 m ⟨e,(((GF.lg c:Int) + (j:Int) * z) % 255).toNat,none⟩ = some ((c * GF.pw (j * z)).v:Int):=by
    intro c z hz hc
    have hjz:(j:Int) * z = ((j * z:Nat):Int):=by simp
    have hb:j * z ≤ 5 * 63:=Nat.mul_le_mul (by omega) (by omega)
    have:=hT.ex (z:=(GF.lg c:Int) + (j:Int) * z) (by omega)
    rw [this]
    refine ⟨by omega,by omega,?_⟩
    rw [show ((GF.lg c:Int) + (j:Int) * z).toNat = GF.lg c + j * z by omega,← GF.pw_pw,GF.pw_lg hc]
   have fin:∀ v:GF,v = a * GF.pw (j * x) + b * GF.pw (j * y) → Ok (patinaref02_fits_j2 k (some ad) 6 sc (some ⟨e,0,none⟩) 255 255 (some ⟨l,0,none⟩) 256 256 (a.v:Int) x (b.v:Int) y j nx (fun y14 m11 => some (y14,m11)) (v.v:Int) m) fun r => r.2 = m ∧ (r.1 = true ↔ GF.fits s a x b y):=by
    rintro v hv
    unfold patinaref02_fits_j2
    simp (disch:=omega) only [SX,plus,i6,e1,v_bne]
    by_cases h1:v = s j
    ·rw [decide_eq_true h1]
     simp (disch:=omega) only [SX,plus]
     refine hnx (r - 1) _ _ _ _ _ _ _ _ _ _ _ _ _ _ _ (by omega) ⟨rfl,rfl,rfl,rfl,rfl,rfl,rfl,rfl,rfl,rfl,rfl,rfl,rfl,rfl,j + 1,by omega,by omega,fun i hi => ?_⟩
     by_cases h2:i = j
     ·rw [h2,← hv];exact h1
     ·exact he i (by omega)
    ·rw [decide_eq_false h1]
     simp (disch:=omega) only [SX,plus]
     exact .some ⟨rfl,⟨fun h => (by cases h),fun h => absurd (hv.trans (h j (by omega))) h1⟩⟩
   have mid:∀ v:GF,v = a * GF.pw (j * x) → Ok (patinaref02_fits_j1 k (some ad) 6 sc (some ⟨e,0,none⟩) 255 255 (some ⟨l,0,none⟩) 256 256 (a.v:Int) x (b.v:Int) y j nx (fun y14 m11 => some (y14,m11)) (v.v:Int) m) fun r => r.2 = m ∧ (r.1 = true ↔ GF.fits s a x b y):=by
    rintro v hv
    unfold patinaref02_fits_j1
    rw [v_bne0]
    by_cases hb0:b = 0
    ·rw [decide_eq_true hb0]
     simp (disch:=omega) only [SX,plus]
     exact fin v (by rw [hb0,GF.zero_mul,GF.add_zero,hv])
    ·rw [decide_eq_false hb0]
     obtain ⟨t1,t2,t3⟩:=term b y hy hb0
     have hlg:=GF.lg_lt hb0
     have w1:IntKind.wrap .i64 ((j:Int) * y) = (j:Int) * y:=wrap_i64 (by omega) (by omega)
     generalize (j:Int) * y = jy at *
     have i255:inRange (((GF.lg b:Int) + jy) % 255) 255 = true:=inRange_yes (by omega) (by omega)
     simp (disch:=omega) only [SX,plus,hT.lg hb0,w1,i255,t3,xor_v]
     exact fin _ (by rw [hv])
   rw [decide_eq_true hj,cond_true,v_bne0]
   by_cases ha0:a = 0
   ·rw [decide_eq_true ha0]
    simp (disch:=omega) only [SX,plus]
    exact mid 0 (by rw [ha0,GF.zero_mul])
   ·rw [decide_eq_false ha0]
    obtain ⟨t1,t2,t3⟩:=term a x hx ha0
    have hlg:=GF.lg_lt ha0
    have w1:IntKind.wrap .i64 ((j:Int) * x) = (j:Int) * x:=wrap_i64 (by omega) (by omega)
    have z0:(0:Int) = (((0:GF).v:Nat):Int):=rfl
    have x0:∀ c:GF,bitI .xor .u8 0 (c.v:Int) = (c.v:Int):=fun c => by
     have:=xor_v 0 c
     rw [GF.zero_add] at this
     exact this
    generalize (j:Int) * x = jx at *
    have i255:inRange (((GF.lg a:Int) + jx) % 255) 255 = true:=inRange_yes (by omega) (by omega)
    simp (disch:=omega) only [SX,plus,hT.lg ha0,w1,i255,t3,x0]
    exact mid _ rfl
  ·obtain rfl:j = 6:=by omega
   simp (disch:=omega) only [SX,plus]
   exact .some ⟨rfl,⟨fun _ => he,fun _ => rfl⟩⟩
 obtain ⟨⟨z,m'⟩,h1,h2,h3⟩:=key
 simp only at h2 h3
 subst h2
 exact ⟨z,h1,h3⟩
theorem over_is (k:Nat) {m:Mem} {e l:Nat} (hT:Tab m e l) (a:GF) {b:GF} (hb:b ≠ 0):patinaref02_over k (some ⟨e,0,none⟩) 255 255 (some ⟨l,0,none⟩) 256 256 (a.v:Int) (b.v:Int) m = some (((GF.div a b).v:Int),m):=by
 unfold patinaref02_over
 have ha':=a.v_lt
 have hb':=b.v_lt
 rw [v_beq0]
 by_cases ha:a = 0
 ·rw [decide_eq_true ha,cond_true,ha]
  unfold GF.div
  rw [GF.zero_mul];rfl
 ·rw [decide_eq_false ha,cond_false]
  have la:=GF.lg_lt ha
  have lb:=GF.lg_lt hb
  have e1:=hT.ex (z:=(GF.lg a:Int) - GF.lg b + 255) (by omega)
  have e2:GF.pw ((GF.lg a:Int) - GF.lg b + 255).toNat = GF.div a b:=by
   unfold GF.div GF.inv
   rw [show ((GF.lg a:Int) - GF.lg b + 255).toNat = GF.lg a + (255 - GF.lg b) by omega,← GF.pw_pw,GF.pw_lg ha]
  rw [e2] at e1
  have i255:inRange (((GF.lg a:Int) - GF.lg b + 255) % 255) 255 = true:=inRange_yes (by omega) (by omega)
  simp (disch:=omega) only [SX,plus,hT.lg ha,hT.lg hb,i255,e1]
theorem turned_ok (k:Nat) {m:Mem} {a:Option Addr} {c:Nat} {w:Nat → GF} (hw:Src m a 64 w) (p q:GF) {i j:Nat} (hi:i < 64) (hj:j < 64) :
 Ok (patinaref02_turned k a 64 c (p.v:Int) i (q.v:Int) j m) fun r => ∃ d,r.1 = ⟨some ⟨d,0,some 1⟩,58,64⟩ ∧ Gr m r.2 ∧ m.length ≤ d ∧ r.2[d]? = some (.live (bys 64 (GF.flip (GF.flip w i p) j q))):=by
 unfold patinaref02_turned
 have hw':rdSl m a 64 1 = some (bys 64 w):=hw
 have e1:=appM_first (z:=1) (y:=1) (m:=m) (l:=64) (new:=bys 64 w) (by omega) (by unfold most;omega) (by unfold most;omega)
 have hl:=get_last (m:=m) (o:=.live (bys 64 w)) rfl
 have e2:=bys_ld (sp:=some 1) hl (i:=i) hi
 have e3:=bys_st (sp:=some 1) hl (i:=i) hi (w i + p)
 rw [wr_last rfl,put_flip] at e3
 have hl2:=get_last (m:=m) (o:=.live (bys 64 (GF.flip w i p))) rfl
 have e4:=bys_ld (sp:=some 1) hl2 (i:=j) hj
 have e5:=bys_st (sp:=some 1) hl2 (i:=j) hj (GF.flip w i p j + q)
 rw [wr_last rfl,put_flip] at e5
 have i1:inRange (i:Int) 64 = true:=inRange_yes (by omega) (by omega)
 have i2:inRange (j:Int) 64 = true:=inRange_yes (by omega) (by omega)
 have u58:inUpto 58 64 = true:=rfl
 have t58:Int.toNat 58 = 58:=rfl
 have hcl:sliceK.clear (some ⟨m.length,0,some 1⟩) false = some ⟨m.length,0,some 1⟩:=rfl
 simp (disch:=omega) only [SX,plus,hw',e1,i1,e2,xor_v,e3,i2,e4,e5,u58,t58,hcl]
 exact .some ⟨m.length,rfl,Gr.app _ _,Nat.le_refl _,get_last rfl⟩
theorem refDecode_ok (k:Nat) (hk:1000 < k) {m:Mem} {a:Option Addr} {c:Nat} {w:Nat → GF} (hw:Src m a 64 w) :
 Ok (patinaref02_Decode k a 64 c m) fun r => Gr m r.2.2.2 ∧ ((∃ u n d,GF.dec w = some (u,n) ∧ r.1 = ⟨some ⟨d,0,some 1⟩,58,64⟩ ∧ r.2.1 = (n:Nat) ∧ r.2.2.1 = true ∧ m.length ≤ d ∧ ∃ u',r.2.2.2[d]? = some (.live (bys 64 u')) ∧ ∀ i,i < 64 → u' i = u i) ∨
  (GF.dec w = none ∧ r.2.2.1 = false)):=by
 unfold patinaref02_Decode
 refine .bind (refSyn_ok k hk (c:=c) hw) ?_
 rintro ⟨_,m1⟩ ⟨sa,rfl,hA⟩
 simp only at hA ⊢
 have hg1:=hA.1
 have t6:Int.toNat 6 = 6:=rfl
 have hl:=get_last (m:=m1) (o:=.live (bys 6 fun _ => 0)) rfl
 have hg2:Gr m1 (m1 ++ [.live (bys 6 fun _ => 0)]):=Gr.app _ _
 obtain ⟨z,e1,e2⟩:=same_is k (c:=6) (c':=6) (hA.src.grow hg2) (Src.of (sp:=none) hl) (by omega) (by omega)
 have hz:z = true ↔ GF.Code w:=by
  rw [e2]
  exact ⟨fun h => h.2,fun h => ⟨rfl,h⟩⟩
 simp (disch:=omega) only [SX,plus,t6,bys_zero,e1]
 have hs:=hA.src.grow hg2
 have hw2:=hw.grow (hg1.trans hg2)
 generalize hm2:m1 ++ [MObj.live (bys 6 fun _ => 0)] = m2 at *
 have hG2:=hg1.trans hg2
 cases z with
 | true =>
  have hc:=hz.1 rfl
  have z0:(0:Int) = (((0:GF).v:Nat):Int):=rfl
  have n0:(0:Int) = ((0:Nat):Int):=rfl
  rw [cond_true]
  refine .bind (turned_ok k (c:=c) hw2 0 0 (i:=0) (j:=0) (by omega) (by omega)) ?_
  rintro ⟨_,m3⟩ ⟨d,rfl,hg3,hd,h3⟩
  simp only at hg3 h3 ⊢
  refine .some ⟨hG2.trans hg3,.inl ⟨w,0,d,GF.dec_code hc,rfl,rfl,rfl,by have:=hG2.len;omega,_,h3,fun i hi => ?_⟩⟩
  simp only [GF.flip,GF.add_zero,ite_self]
 | false =>
  have hno:¬ GF.Code w:=fun h => by have:=hz.2 h;cases this
  rw [cond_false]
  refine .bind (tables_ok k hk m2) ?_
  rintro ⟨_,_,m3⟩ ⟨rfl,rfl,hg3,hT⟩
  simp only at hg3 hT ⊢
  have hs3:=hs.grow hg3
  have hw3:=hw2.grow hg3
  have hG3:=hG2.trans hg3
  obtain ⟨ad,rfl,s0⟩:=hs3.ld (i:=0) (by omega)
  obtain ⟨ad',hh,s1⟩:=hs3.ld (i:=1) (by omega)
  simp only [Option.some.injEq] at hh
  subst hh
  unfold plus at s0 s1
  rw [Nat.add_zero] at s0
  have i06:inRange 0 6 = true:=rfl
  have i16:inRange 1 6 = true:=rfl
  have t0:Int.toNat 0 = 0:=rfl
  have t1:Int.toNat 1 = 1:=rfl
  have mlen:=hG3.len
  refine patinaref02_Decode_l0_rule k _ _ (fun r x0a x0n x0c x5a x5n x5c x7a x7n x7c x8a x8n x8c x9 m' => a = x0a ∧ 64 = x0n ∧ c = x0c ∧ some ad = x5a ∧ 6 = x5n ∧ 6 = x5c ∧ (some ⟨m2.length,0,none⟩:Option Addr) = x7a ∧ 255 = x7n ∧ 255 = x7c ∧ (some ⟨m2.length + 1,0,none⟩:Option Addr) = x8a ∧ 256 = x8n ∧ 256 = x8c ∧ m3 = m' ∧ ∃ i:Nat,x9 = i ∧ i + r = 64 ∧ ∀ j,j < i → ¬ GF.fits (GF.syn w) (GF.syn w 0) (63 - j) 0 0) ?_ k 64 _ _ _ _ _ _ _ _ _ _ _ _ _ _ (by omega)
   ⟨rfl,rfl,rfl,rfl,rfl,rfl,rfl,rfl,rfl,rfl,rfl,rfl,rfl,0,rfl,by omega,fun j hj => by omega⟩
  rintro r nx _ _ _ _ _ _ _ _ _ _ _ _ _ _ ⟨rfl,rfl,rfl,rfl,rfl,rfl,rfl,rfl,rfl,rfl,rfl,rfl,rfl,i,rfl,hr,hone⟩ hnx
  unfold patinaref02_Decode_l0_b
  by_cases hi:(i:Int) < 64
  ·have c63:(63:Int) - (i:Int) = ((63 - i:Nat):Int):=by omega
   obtain ⟨z,f1,f2⟩:=fits_is k hk (sc:=6) hs3 hT (GF.syn w 0) 0 (x:=63 - i) (y:=0) (by omega) (by omega)
   have z0:((((0:GF).v:Nat):Int)) = 0:=rfl
   have n0:((0:Nat):Int) = 0:=rfl
   rw [z0,n0] at f1
   simp (disch:=omega) only [SX,plus,i06,t0,s0,c63,f1]
   cases z with
   | true =>
    simp (disch:=omega) only [SX,plus,i06,t0,s0]
    have:=turned_ok k (c:=c) hw3 (GF.syn w 0) 0 (i:=i) (j:=i) (by omega) (by omega)
    rw [z0] at this
    refine .bind this ?_
    rintro ⟨_,m4⟩ ⟨d,rfl,hg4,hd,h4⟩
    simp only at hg4 h4 ⊢
    obtain ⟨v,v1,v2⟩:=GF.try_one hno (by omega) (f2.1 rfl)
    refine .some ⟨hG3.trans hg4,.inl ⟨v,1,d,v1,rfl,rfl,rfl,by omega,_,h4,fun t ht => ?_⟩⟩
    rw [v2 t ht]
    unfold GF.flip
    split
    ·rw [GF.add_zero]
    ·rfl
   | false =>
    simp (disch:=omega) only [SX,plus]
    refine hnx (r - 1) _ _ _ _ _ _ _ _ _ _ _ _ _ _ (by omega) ⟨rfl,rfl,rfl,rfl,rfl,rfl,rfl,rfl,rfl,rfl,rfl,rfl,rfl,i + 1,by omega,by omega,fun j hj => ?_⟩
    by_cases h1:j = i
    ·rw [h1];exact fun h => by have:=f2.2 h;cases this
    ·exact hone j (by omega)
  ·obtain rfl:i = 64:=by omega
   clear hnx
   rw [decide_eq_false hi,cond_false]
   let bad:Nat → Nat → Prop:=fun i k => ¬ (GF.aOf (GF.syn w) (63 - i) (63 - k) ≠ 0 ∧ GF.syn w 0 + GF.aOf (GF.syn w) (63 - i) (63 - k) ≠ 0 ∧ GF.fits (GF.syn w) (GF.aOf (GF.syn w) (63 - i) (63 - k)) (63 - i) (GF.syn w 0 + GF.aOf (GF.syn w) (63 - i) (63 - k)) (63 - k))
   refine patinaref02_Decode_l2_rule k _ _ (fun r x0a x0n x0c x5a x5n x5c x7a x7n x7c x8a x8n x8c x11 m' => a = x0a ∧ 64 = x0n ∧ c = x0c ∧ some ad = x5a ∧ 6 = x5n ∧ 6 = x5c ∧ (some ⟨m2.length,0,none⟩:Option Addr) = x7a ∧ 255 = x7n ∧ 255 = x7c ∧ (some ⟨m2.length + 1,0,none⟩:Option Addr) = x8a ∧ 256 = x8n ∧ 256 = x8c ∧ m3 = m' ∧ ∃ i:Nat,x11 = i ∧ i + r = 64 ∧ ∀ i' k',i' < i → i' < k' → k' < 64 → bad i' k') ?_ k 64 _ _ _ _ _ _ _ _ _ _ _ _ _ _ (by omega)
    ⟨rfl,rfl,rfl,rfl,rfl,rfl,rfl,rfl,rfl,rfl,rfl,rfl,rfl,0,rfl,by omega,fun i' k' h => by omega⟩
   rintro r' nx' _ _ _ _ _ _ _ _ _ _ _ _ _ _ ⟨rfl,rfl,rfl,rfl,rfl,rfl,rfl,rfl,rfl,rfl,rfl,rfl,rfl,i,rfl,hr',htwo⟩ hnx'
   unfold patinaref02_Decode_l2_b
   by_cases hi2:(i:Int) < 64
   ·have c63:(63:Int) - (i:Int) = ((63 - i:Nat):Int):=by omega
    simp (disch:=omega) only [SX,plus,c63]
    refine patinaref02_Decode_l4_rule k _ _ (fun r x0a x0n x0c x5a x5n x5c x7a x7n x7c x8a x8n x8c x11 x12 x13 m' => a = x0a ∧ 64 = x0n ∧ c = x0c ∧ some ad = x5a ∧ 6 = x5n ∧ 6 = x5c ∧ (some ⟨m2.length,0,none⟩:Option Addr) = x7a ∧ 255 = x7n ∧ 255 = x7c ∧ (some ⟨m2.length + 1,0,none⟩:Option Addr) = x8a ∧ 256 = x8n ∧ 256 = x8c ∧ (i:Int) = x11 ∧ ((63 - i:Nat):Int) = x12 ∧ m3 = m' ∧ ∃ t:Nat,x13 = t ∧ i < t ∧ t + r = 64 ∧ ∀ k',i < k' → k' < t → bad i k') ?_ k (63 - i) _ _ _ _ _ _ _ _ _ _ _ _ _ _ _ _ (by omega)
     ⟨rfl,rfl,rfl,rfl,rfl,rfl,rfl,rfl,rfl,rfl,rfl,rfl,rfl,rfl,rfl,i + 1,by omega,by omega,by omega,fun k' h1 h2 => by omega⟩
    rintro r'' nx'' _ _ _ _ _ _ _ _ _ _ _ _ _ _ _ _ ⟨rfl,rfl,rfl,rfl,rfl,rfl,rfl,rfl,rfl,rfl,rfl,rfl,rfl,rfl,rfl,t,rfl,hit,hr'',hbad⟩ hnx''
    unfold patinaref02_Decode_l4_b
    by_cases ht:(t:Int) < 64
    ·have c63t:(63:Int) - (t:Int) = ((63 - t:Nat):Int):=by omega
     have hX:GF.pw (63 - i) + GF.pw (63 - t) ≠ 0:=fun h => by have:=GF.pw_inj (by omega) (by omega) (GF.add_eq_zero.1 h);omega
     have next:bad i t → Ok (patinaref02_Decode_j1 k a 64 c (some ad) 6 6 (some ⟨m2.length,0,none⟩) 255 255 (some ⟨m2.length + 1,0,none⟩) 256 256 (i:Int) ((63 - i:Nat):Int) (t:Int) nx'' m3) fun r => Gr m r.2.2.2 ∧ ((∃ u n d,GF.dec w = some (u,n) ∧ r.1 = ⟨some ⟨d,0,some 1⟩,58,64⟩ ∧ r.2.1 = (n:Nat) ∧ r.2.2.1 = true ∧ m.length ≤ d ∧ ∃ u',r.2.2.2[d]? = some (.live (bys 64 u')) ∧ ∀ i,i < 64 → u' i = u i) ∨ (GF.dec w = none ∧ r.2.2.1 = false)):=by
      intro hb
      unfold patinaref02_Decode_j1
      simp (disch:=omega) only [SX,plus]
      refine hnx'' (r'' - 1) _ _ _ _ _ _ _ _ _ _ _ _ _ _ _ _ (by omega) ⟨rfl,rfl,rfl,rfl,rfl,rfl,rfl,rfl,rfl,rfl,rfl,rfl,rfl,rfl,rfl,t + 1,by omega,by omega,by omega,fun k' h1 h2 => ?_⟩
      by_cases h3:k' = t
      ·rw [h3];exact hb
      ·exact hbad k' h1 (by omega)
     have two:∀ v:GF,v = GF.syn w 0 * GF.pw (63 - t) → Ok (patinaref02_Decode_j2 k a 64 c (some ad) 6 6 (some ⟨m2.length,0,none⟩) 255 255 (some ⟨m2.length + 1,0,none⟩) 256 256 (i:Int) ((63 - i:Nat):Int) (t:Int) nx'' (fun y2a y2n y2c y3 y4 m33 => some ((⟨y2a,y2n,y2c⟩:Sl),y3,y4,m33)) (v.v:Int) m3) fun r => Gr m r.2.2.2 ∧ ((∃ u n d,GF.dec w = some (u,n) ∧ r.1 = ⟨some ⟨d,0,some 1⟩,58,64⟩ ∧ r.2.1 = (n:Nat) ∧ r.2.2.1 = true ∧ m.length ≤ d ∧ ∃ u',r.2.2.2[d]? = some (.live (bys 64 u')) ∧ ∀ i,i < 64 → u' i = u i) ∨ (GF.dec w = none ∧ r.2.2.1 = false)):=by
      rintro v rfl
      unfold patinaref02_Decode_j2
      have g1:=bys_ld (sp:=none) hT.1 (i:=63 - i) (by omega)
      have g2:=bys_ld (sp:=none) hT.1 (i:=63 - t) (by omega)
      have g3:=over_is k hT (GF.syn w 1 + GF.syn w 0 * GF.pw (63 - t)) hX
      have j1:inRange ((63 - i:Nat):Int) 255 = true:=inRange_yes (by omega) (by omega)
      have j2:inRange ((63 - t:Nat):Int) 255 = true:=inRange_yes (by omega) (by omega)
      have hA':GF.div (GF.syn w 1 + GF.syn w 0 * GF.pw (63 - t)) (GF.pw (63 - i) + GF.pw (63 - t)) = GF.aOf (GF.syn w) (63 - i) (63 - t):=rfl
      rw [hA'] at g3
      simp (disch:=omega) only [SX,plus,i16,t1,s1,j1,g1,c63t,j2,g2,xor_v,g3,i06,t0,s0,v_beq0]
      by_cases ha0:GF.aOf (GF.syn w) (63 - i) (63 - t) = 0
      ·rw [decide_eq_true ha0,cond_true]
       exact next fun h => h.1 ha0
      rw [decide_eq_false ha0,cond_false]
      by_cases hb0:GF.syn w 0 + GF.aOf (GF.syn w) (63 - i) (63 - t) = 0
      ·rw [decide_eq_true hb0,cond_true]
       exact next fun h => h.2.1 hb0
      rw [decide_eq_false hb0,cond_false]
      obtain ⟨z,f1,f2⟩:=fits_is k hk (sc:=6) hs3 hT (GF.aOf (GF.syn w) (63 - i) (63 - t)) (GF.syn w 0 + GF.aOf (GF.syn w) (63 - i) (63 - t)) (x:=63 - i) (y:=63 - t) (by omega) (by omega)
      simp (disch:=omega) only [SX,plus,f1]
      cases z with
      | true =>
       simp (disch:=omega) only [SX,plus]
       refine .bind (turned_ok k (c:=c) hw3 (GF.aOf (GF.syn w) (63 - i) (63 - t)) (GF.syn w 0 + GF.aOf (GF.syn w) (63 - i) (63 - t)) (i:=i) (j:=t) (by omega) (by omega)) ?_
       rintro ⟨_,m4⟩ ⟨d,rfl,hg4,hd,h4⟩
       simp only at hg4 h4 ⊢
       obtain ⟨v,v1,v2⟩:=GF.try_two hit (by omega) ha0 hb0 (f2.1 rfl)
       exact .some ⟨hG3.trans hg4,.inl ⟨v,2,d,v1,rfl,rfl,rfl,by omega,_,h4,fun t ht => (v2 t ht).symm⟩⟩
      | false =>
       simp (disch:=omega) only [SX,plus]
       exact next fun h => by have:=f2.2 h.2.2;cases this
     simp (disch:=omega) only [SX,plus,i06,t0,s0,v_bne0,c63t]
     by_cases h0:GF.syn w 0 = 0
     ·rw [decide_eq_true h0]
      simp (disch:=omega) only [SX,plus]
      exact two 0 (by rw [h0,GF.zero_mul])
     ·rw [decide_eq_false h0]
      have hv0:=(GF.syn w 0).v_lt
      have e3:=hT.ex (z:=(GF.lg (GF.syn w 0):Int) + ((63 - t:Nat):Int)) (by omega)
      rw [show ((GF.lg (GF.syn w 0):Int) + ((63 - t:Nat):Int)).toNat = GF.lg (GF.syn w 0) + (63 - t) by omega,← GF.pw_pw,GF.pw_lg h0] at e3
      have hlg:=GF.lg_lt h0
      have i255:inRange (((GF.lg (GF.syn w 0):Int) + ((63 - t:Nat):Int)) % 255) 255 = true:=inRange_yes (by omega) (by omega)
      simp (disch:=omega) only [SX,plus,hT.lg h0,i255,e3]
      exact two _ rfl
    ·obtain rfl:t = 64:=by omega
     simp (disch:=omega) only [SX,plus]
     refine hnx' (r' - 1) _ _ _ _ _ _ _ _ _ _ _ _ _ _ (by omega) ⟨rfl,rfl,rfl,rfl,rfl,rfl,rfl,rfl,rfl,rfl,rfl,rfl,rfl,i + 1,by omega,by omega,fun i' k' h1 h2 h3 => ?_⟩
     by_cases h4:i' = i
     ·subst h4;exact hbad k' h2 h3
     ·exact htwo i' k' (by omega) h2 h3
   ·obtain rfl:i = 64:=by omega
    simp (disch:=omega) only [SX,plus]
    exact .some ⟨hG3,.inr ⟨GF.try_none hno hone fun i k h1 h2 => htwo i k (by omega) h1 h2,rfl⟩⟩
end Go.Proofs.YtchonnaoojpdoaaGreat
