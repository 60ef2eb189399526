import Derived.Test.YtchonnaoojpdoaaGreatBMediaPlays1
import Derived.Test.YtchonnaoojpdoaaGreatFframe
import Derived.Test.YtchonnaoojpdoaaGreatFpatinaref06
import Derived.Test.YtchonnaoojpdoaaGreatFpatinalaw00
import Derived.Test.YtchonnaoojpdoaaGreatFnand
import Derived.Test.YtchonnaoojpdoaaGreatMxFlat
import Derived.Test.YtchonnaoojpdoaaGreatFpatinaref05
set_option linter.unusedVariables false
set_option linter.unusedSectionVars false
set_option linter.unusedSimpArgs false
namespace Go.Proofs.YtchonnaoojpdoaaGreat
open Go.Mx
theorem Src.part {m:Mem} {ad:Addr} {n o l:Nat} {w:Nat → GF} (h:Src m (some ad) n w) (hl:o + l ≤ n):Src m (some (plus ad o)) l fun i => w (o + i):=by
 unfold Src rdSl at *
 simp only [Nat.mul_one] at *
 by_cases h0:l = 0
 ·subst h0;rfl
 ·rw [if_neg h0]
  rw [if_neg (by omega)] at h
  unfold ldCells at *
  obtain ⟨cs,h1,h2⟩:=Option.bind_eq_some_iff.1 h
  unfold cCells at h2
  split at h2
  ·rename_i hle
   simp only [Option.some.injEq] at h2
   have e:m.cells (plus ad o).block = some cs:=h1
   have eo:(plus ad o).off = ad.off + o:=rfl
   rw [e,Option.bind_some]
   unfold cCells
   rw [eo,if_pos (by omega),← bys_sub hl,← h2,List.drop_take,List.drop_drop,List.take_take,Nat.min_eq_left (by omega)]
  ·cases h2
def okS (a:Addr):Prop:=a.spot = none ∨ a.spot = some 1
theorem okS.z {a:Addr} (h:okS a):sliceK.okZ (some a) 1 false = true:=by
 obtain ⟨b,o,sp⟩:=a
 rcases h with h | h <;> simp only at h <;> subst h <;> rfl
theorem ldVal_of {m:Mem} {b off:Nat} {sp:Option Nat} {cs:List Value} {v:Value} (h:m[b]? = some (.live cs)) (hc:cs[off]? = some v):ldVal m ⟨b,off,sp⟩ = some v:=by
 simp [ldVal,Mem.cells,h,MObj.cells,cVal,hc]
theorem clear_f (a:Option Addr):sliceK.clear a false = a:=rfl
def Frm (m:Mem) (c:Nat):Prop:=∃ cd,m[c]? = some (.live [.pointer (some ⟨cd,0,none⟩)]) ∧ Cod m cd
theorem Frm.grow {m m':Mem} {c:Nat} (h:Frm m c) (hg:Gr m m'):Frm m' c:=by
 obtain ⟨cd,h1,h2⟩:=h
 exact ⟨cd,hg.get h1,h2.grow hg⟩
theorem frameNew_ok (k:Nat) (hk:1000 < k) (m:Mem):Ok (frame_New k m) fun r => ∃ c,r.1 = some ⟨c,0,none⟩ ∧ Gr m r.2 ∧ m.length ≤ c ∧ Frm r.2 c:=by
 unfold frame_New
 refine .bind (rsNew_ok k hk m) ?_
 rintro ⟨_,m1⟩ ⟨cd,rfl,hg,hc,hC⟩
 simp only at hg hC ⊢
 exact .some ⟨m1.length,rfl,hg.trans (Gr.app _ _),hg.len,cd,get_last rfl,hC.grow (Gr.app _ _)⟩
def mrk (i:Nat):GF:=GF.of ([112,97,116,105,110,97,48,49].getD i 0)
def sealed (w:Nat → GF):Nat → GF:=fun i => if i < 50 then w i else mrk (i - 50)
theorem mrk_cells:bytesOf (ByteArray.mk #[112,97,116,105,110,97,48,49]) = bys 8 mrk:=by kernel_rfl
theorem mrk_size:ByteArray.size (ByteArray.mk #[112,97,116,105,110,97,48,49]) = 8:=rfl
theorem seal_no (k:Nat) {m:Mem} {a:Option Addr} {n c:Nat} (hn:n ≠ 50):wire_Seal k a n c m = some (⟨none,0,0⟩,errC 1,m):=by
 unfold wire_Seal
 have h58:(((n:Nat):Int) != 50) = true:=bneI_yes (by omega)
 simp (disch:=omega) only [SX,plus,h58]
 rfl
theorem seal_ok (k:Nat) {m:Mem} {a:Option Addr} {c:Nat} {w:Nat → GF} (hw:Src m a 50 w) :
 Ok (wire_Seal k a 50 c m) fun r => r.1 = ⟨some ⟨m.length,0,none⟩,58,58⟩ ∧ r.2.1 = .nilIface ∧ Gr m r.2.2 ∧ r.2.2[m.length]? = some (.live (bys 58 (sealed w))):=by
 unfold wire_Seal
 have h50:(((50:Nat):Int) != 50) = false:=rfl
 have t58:Int.toNat 58 = 58:=rfl
 have t50:Int.toNat 50 = 50:=rfl
 simp (disch:=omega) only [SX,plus,h50,bys_zero,t58,t50,mrk_size]
 have h1:=get_last (m:=m) (o:=.live (bys 58 fun _ => 0)) rfl
 have hG:=Gr.app m [.live (bys 58 fun _ => (0:GF))]
 generalize hM:m ++ [MObj.live (bys 58 fun _ => (0:GF))] = M at *
 have e1:rdSl M a (min 50 58) 1 = some (bys 50 w):=hw.grow hG
 have e2:oper.stSl M (some ⟨m.length,0,none⟩) (bys 50 w) = some (wr M m.length (bys 58 fun i => if 0 ≤ i ∧ i < 0 + 50 then w (i - 0) else 0)):=bys_stc h1 (by omega)
 have h2:=wr_get (cs:=bys 58 fun i => if 0 ≤ i ∧ i < 0 + 50 then w (i - 0) else 0) h1
 have e3:oper.stSl (wr M m.length (bys 58 fun i => if 0 ≤ i ∧ i < 0 + 50 then w (i - 0) else 0)) (some ⟨m.length,50,none⟩) (bys 8 mrk) = some (wr (wr M m.length (bys 58 fun i => if 0 ≤ i ∧ i < 0 + 50 then w (i - 0) else 0)) m.length _):=bys_stc h2 (by omega)
 have ho:sliceK.okZ (some ⟨m.length,0,none⟩) 1 false = true:=rfl
 have hu:inUpto 50 58 = true:=rfl
 have e4:List.take (min 8 (58 - 50)) (bytesOf (ByteArray.mk #[112,97,116,105,110,97,48,49])) = bys 8 mrk:=by rw [mrk_cells];rfl
 simp (disch:=omega) only [SX,plus,e1,e2,ho,hu,Bool.and_self,clear_f,e4,e3]
 refine .some ⟨rfl,rfl,hG.wr (Nat.le_refl _) _,?_⟩
 simp only
 rw [wr_get h1]
 have he:(bys 58 fun i => if 50 ≤ i ∧ i < 50 + 8 then mrk (i - 50) else if 0 ≤ i ∧ i < 0 + 50 then w (i - 0) else 0) = bys 58 (sealed w):=by
  refine bys_congr fun i hi => ?_
  unfold sealed
  by_cases h:i < 50
  ·rw [if_neg (by omega),if_pos (by omega),if_pos h,Nat.sub_zero]
  ·rw [if_pos (by omega),if_neg h]
 rw [← he]
theorem ba_loop (s:ByteArray):∀ (d i:Nat) (r:List UInt8),s.size - i = d → ByteArray.toList.loop s i r = r.reverse ++ s.data.toList.drop i:=by
 intro d
 induction d with
 | zero =>
  intro i r h
  unfold ByteArray.toList.loop
  have hs:s.size = s.data.toList.length:=by rw [Array.length_toList];rfl
  rw [if_neg (by omega),List.drop_eq_nil_of_le (by omega),List.append_nil]
 | succ d ih =>
  intro i r h
  unfold ByteArray.toList.loop
  have hs:s.size = s.data.toList.length:=by rw [Array.length_toList];rfl
  rw [if_pos (by omega),ih (i + 1) _ (by omega),List.drop_eq_getElem_cons (show i < s.data.toList.length by omega)]
  have:s.get! i = s.data.toList[i]'(by omega):=by
   have h1:s.get! i = s.data[i]!:=rfl
   rw [h1,getElem!_pos s.data i (by rw [Array.length_toList] at hs;omega),Array.getElem_toList]
  rw [this];simp
theorem ba_toList (s:ByteArray):s.toList = s.data.toList:=by
 unfold ByteArray.toList
 rw [ba_loop s _ 0 [] rfl];simp
theorem go_map:∀ l:List GF,strOf.strGo (l.map fun g => Value.int .u8 (g.v:Int)) = some (l.map fun g => UInt8.ofNat g.v)
 | [] => rfl
 | g :: l => by simp [strOf.strGo,go_map l]
theorem bys_map (n:Nat) (w:Nat → GF):bys n w = ((List.range n).map w).map fun g => Value.int .u8 (g.v:Int):=by
 apply List.ext_getElem?
 intro i
 by_cases h:i < n
 ·rw [bys_get h];simp [h]
 ·rw [List.getElem?_eq_none (by rw [bys_len];omega),List.getElem?_eq_none (by simp;omega)]
theorem str_bys {n:Nat} (hn:0 < n) (w:Nat → GF):strOf (bys n w) = some ⟨(((List.range n).map w).map fun g => UInt8.ofNat g.v).toArray⟩:=by
 rw [bys_map]
 have h:=go_map ((List.range n).map w)
 generalize hl:(List.range n).map w = l at *
 cases l with
 | nil => have:=congrArg List.length hl;simp at this;omega
 | cons g l => show Option.map _ _ = _;rw [h];rfl
theorem mrk_list:(ByteArray.mk #[112,97,116,105,110,97,48,49]).data.toList = ((List.range 8).map mrk).map fun g => UInt8.ofNat g.v:=by decide +kernel
theorem mark_is (w:Nat → GF):∃ s,strOf (bys 8 w) = some s ∧ (strEq s (ByteArray.mk #[112,97,116,105,110,97,48,49]) = true ↔ ∀ i,i < 8 → w i = mrk i):=by
 refine ⟨_,str_bys (by omega) w,?_⟩
 unfold strEq
 rw [ba_toList,ba_toList,mrk_list,beq_iff_eq]
 constructor
 ·intro h i hi
  have h1:=congrArg (fun l => l[i]?) h
  simp only [List.getElem?_map,List.getElem?_range hi,Option.map_some,Option.some.injEq] at h1
  have h2:=congrArg UInt8.toNat h1
  simp only [UInt8.toNat_ofNat'] at h2
  have a1:=GF.v_lt (w i)
  have a2:=GF.v_lt (mrk i)
  rw [← GF.of_v (w i),← GF.of_v (mrk i),show (w i).v = (mrk i).v by omega]
 ·intro h
  have:(List.range 8).map w = (List.range 8).map mrk:=List.map_congr_left fun i hi => h i (List.mem_range.1 hi)
  show List.map _ _ = _
  rw [this]
def marked (w:Nat → GF):Prop:=∀ i,i < 8 → w (50 + i) = mrk i
theorem open_ok (k:Nat) {m:Mem} {ad:Addr} {c:Nat} {w:Nat → GF} (hw:Src m (some ad) 58 w) :
 Ok (wire_Open k (some ad) 58 c m) fun r => Gr m r.2.2 ∧ ((marked w ∧ ∃ d,r.1 = ⟨some ⟨d,0,none⟩,50,50⟩ ∧ r.2.1 = .nilIface ∧ m.length ≤ d ∧ r.2.2[d]? = some (.live (bys 58 w))) ∨ (¬ marked w ∧ r.1 = ⟨none,0,0⟩ ∧ r.2.1 = errC 6)):=by
 unfold wire_Open bytes_Clone
 have h58:(((58:Nat):Int) != 58) = false:=rfl
 simp (disch:=omega) only [SX,plus,h58]
 have h1:=get_last (m:=m) (o:=.live ([]:List Value)) rfl
 have hG:=Gr.app m [.live ([]:List Value)]
 have hl:(m ++ [MObj.live ([]:List Value)]).length = m.length + 1:=by simp
 generalize m ++ [MObj.live ([]:List Value)] = M at *
 have e1:rdSl M (some ad) 58 1 = some (bys 58 w):=hw.grow hG
 have e2:appM 1 1 M (some ⟨m.length,0,none⟩) 0 0 58 (bys 58 w) = some (⟨some ⟨M.length,0,some 1⟩,58,58⟩,M ++ [.live (bys 58 w)]):=appM_make h1 (by omega) (by unfold most;omega) (by unfold most;omega)
 have h2:=get_last (m:=M) (o:=.live (bys 58 w)) rfl
 have hG2:=hG.trans (Gr.app M [.live (bys 58 w)])
 have ho:sliceK.okZ (some ⟨M.length,0,some 1⟩) 1 false = true:=rfl
 have hu:inUpto 50 58 = true:=rfl
 have t50:Int.toNat 50 = 50:=rfl
 simp (disch:=omega) only [SX,plus,e1,e2,ho,hu,Bool.and_self,clear_f,t50]
 generalize M ++ [MObj.live (bys 58 w)] = M2 at *
 have e3:rdSl M2 (some ⟨M.length,50,some 1⟩) (58 - 50) 1 = some (bys 8 fun i => w (50 + i)):=Src.sub (sp:=some 1) h2 (by omega)
 obtain ⟨s,e4,e5⟩:=mark_is fun i => w (50 + i)
 simp (disch:=omega) only [SX,plus,e3,e4]
 cases hs:strEq s (ByteArray.mk #[112,97,116,105,110,97,48,49]) with
 | true =>
  have hu2:inUpto 50 50 = true:=rfl
  simp (disch:=omega) only [SX,plus,hs,hu2,Bool.and_self]
  exact .some ⟨hG2,.inl ⟨e5.1 hs,M.length,rfl,rfl,by have:=hG.len;omega,h2⟩⟩
 | false =>
  simp (disch:=omega) only [SX,plus,hs]
  exact .some ⟨hG2,.inr ⟨fun h => by (have h9:=e5.2 h;rw [hs] at h9;cases h9),rfl,rfl⟩⟩
abbrev pc:Nat:=106
abbrev pcv (b z:Nat):Value:=.func (.func pc) ⟨[]⟩ ⟨[.pointer (some ⟨z,0,none⟩),.pointer (some ⟨b,0,none⟩)]⟩
theorem pieces_is (k:Nat) (m:Mem) (a:Option Addr) (n c:Nat) (s:Int):frame_pieces k a n c s m = some (pcv m.length (m.length + 1),m ++ [.live [.slice a n c],.live [.int .i64 s]]):=by
 unfold frame_pieces
 simp [pcv]
theorem pcs_next {R:Type} {m:Mem} {b z:Nat} {a:Addr} {n c s i:Nat} {stop:Option R} {go:Sl → Int → Option R} (hb:m[b]? = some (.live [.slice (some a) n c])) (hz:m[z]? = some (.live [.int .i64 s])) (ha:okS a) (h0:0 < s ∧ s < 1000) (hi:i < 1000)
 (hn:i * s < n) (hc:i * s + s ≤ c) (hm:n < 1000000):pcsK pc (pcv b z) i m stop go = go ⟨some (plus a (i * s)),s,c - i * s⟩ ((i + 1:Nat):Int):=by
 have e1:ldInt .i64 m ⟨z,0,none⟩ = some (s:Int):=ldInt_of hz rfl
 have e2:ldSl m ⟨b,0,none⟩ = some ⟨some a,n,c⟩:=ldSl_of hb rfl
 have w1:IntKind.wrap .i64 ((i:Int) * s) = ((i * s:Nat):Int):=by
  have:(i:Int) * s = ((i * s:Nat):Int):=by simp
  rw [this,wrap_i64 (by omega) (by omega)]
 have w2:IntKind.wrap .i64 ((i:Int) + 1) = ((i + 1:Nat):Int):=by rw [wrap_i64 (by omega) (by omega)];simp
 have hp:(i + 1) * s = i * s + s:=Nat.succ_mul _ _
 have w3:IntKind.wrap .i64 (((i + 1:Nat):Int) * s) = ((i * s + s:Nat):Int):=by
  have:((i + 1:Nat):Int) * s = (((i + 1) * s:Nat):Int):=by simp
  rw [this,hp,wrap_i64 (by omega) (by omega)]
 have u1:inUpto ((i * s + s:Nat):Int) c = true:=inUpto_yes (by omega) (by omega)
 have u2:inUpto ((i * s:Nat):Int) (i * s + s) = true:=inUpto_yes (by omega) (by omega)
 unfold pcsK pcs
 simp only [Nat.beq_refl,cond_true,e1,e2,Option.bind_some,w1,w2,w3,ha.z,u1,u2,Bool.and_self,decide_eq_true (show ((i * s:Nat):Int) < (n:Int) by omega),Int.toNat_natCast,Nat.mul_one,clear_f,Option.map_some]
 rw [show i * s + s - i * s = s by omega]
theorem pcs_end {R:Type} {m:Mem} {b z:Nat} {a:Addr} {n c s i:Nat} {stop:Option R} {go:Sl → Int → Option R} (hb:m[b]? = some (.live [.slice (some a) n c])) (hz:m[z]? = some (.live [.int .i64 s])) (h0:0 < s ∧ s < 1000) (hi:i < 1000)
 (hn:n ≤ i * s) (hm:i * s < 10000000):pcsK pc (pcv b z) i m stop go = stop:=by
 have e1:ldInt .i64 m ⟨z,0,none⟩ = some (s:Int):=ldInt_of hz rfl
 have e2:ldSl m ⟨b,0,none⟩ = some ⟨some a,n,c⟩:=ldSl_of hb rfl
 have w1:IntKind.wrap .i64 ((i:Int) * s) = ((i * s:Nat):Int):=by
  have:(i:Int) * s = ((i * s:Nat):Int):=by simp
  rw [this,wrap_i64 (by omega) (by omega)]
 unfold pcsK pcs
 simp only [Nat.beq_refl,cond_true,e1,e2,Option.bind_some,w1,decide_eq_false (show ¬ ((i * s:Nat):Int) < (n:Int) by omega),cond_false]
def Rw (b:Nat) (m:Mem) (a:Option Addr) (N:Nat) (D:Nat → Nat) (l:Nat) (sp:Option Nat):Prop:=(a = none ∧ N = 0) ∨ ∃ q,a = some ⟨q,0,some 1⟩ ∧ b ≤ q ∧ m[q]? = some (.live (sls N D (fun _ => l) sp))
theorem Rw.grow {b m m' a N D l sp} (h:Rw b m a N D l sp) (hg:Gr m m'):Rw b m' a N D l sp:=by
 rcases h with h | ⟨q,h1,h2,h3⟩
 ·exact .inl h
 ·exact .inr ⟨q,h1,h2,hg.get h3⟩
theorem Rw.app {b N l d:Nat} {m:Mem} {a:Option Addr} {D:Nat → Nat} {sp:Option Nat} (h:Rw b m a N D l sp) (hb:b ≤ m.length) (hN:N < 1000) :
 ∃ m',appM 1 24 m a N N 1 [.slice (some ⟨d,0,sp⟩) l l] = some (⟨some ⟨m.length,0,some 1⟩,N + 1,N + 1⟩,m') ∧ m'.length = m.length + 1 ∧ m'[m.length]? = some (.live (sls (N + 1) (fun i => if i = N then d else D i) (fun _ => l) sp)) ∧
  (∀ p,p < m.length → (∀ q,a = some ⟨q,0,some 1⟩ → p ≠ q) → m'[p]? = m[p]?) ∧ ∀ m0,Gr m0 m → m0.length ≤ b → Gr m0 m':=by
 have e0:sls N D (fun _ => l) sp = sls N (fun i => if i = N then d else D i) (fun _ => l) sp:=sls_congr fun i hi => ⟨(if_neg (by omega)).symm,rfl⟩
 have e1:sls N (fun i => if i = N then d else D i) (fun _ => l) sp ++ [.slice (some ⟨d,0,sp⟩) l l] = sls (N + 1) (fun i => if i = N then d else D i) (fun _ => l) sp:=by
  have:=sls_snoc (N:=N) (D:=fun i => if i = N then d else D i) (nn:=fun _ => l) (sp:=sp)
  rwa [if_pos rfl] at this
 rcases h with ⟨rfl,rfl⟩ | ⟨q,rfl,h2,h3⟩
 ·refine ⟨_,appM_first (by omega) (by unfold most;omega) (by unfold most;omega),by simp,?_,fun p hp _ => get_app_lt hp,fun m0 h0 _ => h0.trans (Gr.app _ _)⟩
  rw [get_last rfl,← e1];rfl
 ·refine ⟨m.set q (.old (sls N D (fun _ => l) sp) m.length) ++ [.live (sls N D (fun _ => l) sp ++ [.slice (some ⟨d,0,sp⟩) l l])],?_,by simp,?_,fun p hp hd => ?_,fun m0 h0 h1 => (h0.kill (by omega) _).trans (Gr.app _ _)⟩
  ·rw [appM_grow h3 (by rw [sls_len,Nat.mul_one]) (by omega) (by unfold most;omega) (by unfold most;omega)]
  ·rw [get_last (by simp),e0,e1]
  ·rw [get_app_lt (by simpa using hp),get_set_ne (fun h => hd q rfl h.symm)]
end Go.Proofs.YtchonnaoojpdoaaGreat
set_option linter.unusedVariables false
set_option linter.unusedSectionVars false
set_option linter.unusedSimpArgs false
namespace Go.Proofs.YtchonnaoojpdoaaGreat
open Go.Mx
def whole (w u:Nat → GF):Nat → GF:=fun i => if i < 174 then w i else sealed u (i - 174)
def msgs (w u:Nat → GF) (i:Nat):Nat → GF:=fun j => whole w u (i * 58 + j)
theorem lay_no (k:Nat) {m:Mem} {c:Nat} {a b:Option Addr} {n1 n2 ca cb:Nat} (h:¬ (n1 = 174 ∧ n2 = 50)) :
 Ok (frame_Frame_Lay k (some ⟨c,0,none⟩) a n1 ca b n2 cb m) fun r => r.1 = ⟨none,0,0⟩ ∧ r.2.1 = errC 1 ∧ Gr m r.2.2:=by
 unfold frame_Frame_Lay
 have l1:(m ++ [MObj.live [Value.pointer (some ⟨c,0,none⟩)]]).length = m.length + 1:=by simp
 have l2:((m ++ [MObj.live [Value.pointer (some ⟨c,0,none⟩)]]) ++ [MObj.live [.slice none 0 0]]).length = m.length + 2:=by simp
 have g3:=(((Gr.app m [.live [Value.pointer (some ⟨c,0,none⟩)]]).trans (Gr.app _ [.live [.slice none 0 0]])).trans (Gr.app _ [.live [.nilIface]]))
 have x6:(((m ++ [MObj.live [Value.pointer (some ⟨c,0,none⟩)]]) ++ [MObj.live [.slice none 0 0]]) ++ [MObj.live [.nilIface]])[m.length + 1]? = some (.live [.slice none 0 0]):=get_grow (get_last (by simp))
 have x7:(((m ++ [MObj.live [Value.pointer (some ⟨c,0,none⟩)]]) ++ [MObj.live [.slice none 0 0]]) ++ [MObj.live [.nilIface]])[m.length + 2]? = some (.live [.nilIface]):=get_last (by simp)
 simp (disch:=omega) only [SX,plus,l1,l2]
 generalize ((m ++ [MObj.live [Value.pointer (some ⟨c,0,none⟩)]]) ++ [MObj.live [.slice none 0 0]]) ++ [MObj.live [.nilIface]] = M at *
 have key:∀ (e:Value),isOne e = true → (st M ⟨m.length + 1,0,none⟩ (.slice none 0 0)) = some (wr M (m.length + 1) [.slice none 0 0]) ∧ st (wr M (m.length + 1) [.slice none 0 0]) ⟨m.length + 2,0,none⟩ e = some (wr (wr M (m.length + 1) [.slice none 0 0]) (m.length + 2) [e]) ∧
  ldSl (wr (wr M (m.length + 1) [.slice none 0 0]) (m.length + 2) [e]) ⟨m.length + 1,0,none⟩ = some ⟨none,0,0⟩ ∧ ldVal (wr (wr M (m.length + 1) [.slice none 0 0]) (m.length + 2) [e]) ⟨m.length + 2,0,none⟩ = some e ∧ Gr m (wr (wr M (m.length + 1) [.slice none 0 0]) (m.length + 2) [e]):=by
  intro e _
  have y7:(wr M (m.length + 1) [.slice none 0 0])[m.length + 2]? = some (.live [.nilIface]):=by rw [wr_ne (by omega)];exact x7
  refine ⟨st_wr x6 (by simp),st_wr y7 (by simp),ldSl_of (cs:=[.slice none 0 0]) (by rw [wr_ne (by omega)];exact wr_get x6) rfl,ldVal_of (cs:=[e]) (wr_get y7) rfl,(g3.wr (by omega) _).wr (by omega) _⟩
 by_cases h1:n1 = 174
 ·subst h1
  have e1:(((174:Nat):Int) != 174) = false:=rfl
  have e2:=seal_no k (m:=M) (a:=b) (c:=cb) (n:=n2) (fun h2 => h ⟨rfl,h2⟩)
  obtain ⟨k1,k2,k3,k4,k5⟩:=key (errC 1) rfl
  have e3:isNil (errC 1) = some false:=rfl
  have e4:isOne (errC 1) = true:=rfl
  simp (disch:=omega) only [SX,plus,e1,e2,e3,e4,k1,k2,k3,k4]
  exact .some ⟨rfl,rfl,k5⟩
 ·have e1:(((n1:Nat):Int) != 174) = true:=bneI_yes (by omega)
  obtain ⟨k1,k2,k3,k4,k5⟩:=key (errC 1) rfl
  rw [errC_pos (by omega)] at k2 k3 k4 k5
  simp (disch:=omega) only [SX,plus,e1,k1,k2,k3,k4]
  exact .some ⟨rfl,rfl,k5⟩
structure LyI (m ML:Mem) (x10:Nat) (w u:Nat → GF) (i:Nat) (M:Mem) (out:Option Addr) (D:Nat → Nat):Prop where
 len:ML.length ≤ M.length
 gr:Gr m M
 old:∀ p,p < ML.length → p ≠ x10 → M[p]? = ML[p]?
 box:M[x10]? = some (.live [.slice out i i])
 row:Rw ML.length M out i D 64 none
 D_:∀ j,j < i → ML.length ≤ D j ∧ M[D j]? = some (.live (bys 64 (GF.cw gC (msgs w u j)))) ∧ (∀ q,out = some ⟨q,0,some 1⟩ → D j ≠ q) ∧ ∀ j',j' < i → j ≠ j' → D j ≠ D j'
theorem lay_ok (k:Nat) (hk:1000 < k) {m:Mem} {c:Nat} {a b:Option Addr} {ca cb:Nat} {w u:Nat → GF} (hC:Frm m c) (ha:Src m a 174 w) (hb:Src m b 50 u) :
 Ok (frame_Frame_Lay k (some ⟨c,0,none⟩) a 174 ca b 50 cb m) fun r => ∃ q D,r.1 = ⟨some ⟨q,0,some 1⟩,4,4⟩ ∧ r.2.1 = .nilIface ∧ Gr m r.2.2 ∧ m.length ≤ q ∧ r.2.2[q]? = some (.live (sls 4 D (fun _ => 64) none)) ∧
  ∀ i,i < 4 → m.length ≤ D i ∧ D i ≠ q ∧ r.2.2[D i]? = some (.live (bys 64 (GF.cw gC (msgs w u i)))) ∧ ∀ j,j < 4 → i ≠ j → D i ≠ D j:=by
 unfold frame_Frame_Lay
 have l1:(m ++ [MObj.live [Value.pointer (some ⟨c,0,none⟩)]]).length = m.length + 1:=by simp
 have l2:((m ++ [MObj.live [Value.pointer (some ⟨c,0,none⟩)]]) ++ [MObj.live [.slice none 0 0]]).length = m.length + 2:=by simp
 have l3:(((m ++ [MObj.live [Value.pointer (some ⟨c,0,none⟩)]]) ++ [MObj.live [.slice none 0 0]]) ++ [MObj.live [.nilIface]]).length = m.length + 3:=by simp
 have g3:=(((Gr.app m [.live [Value.pointer (some ⟨c,0,none⟩)]]).trans (Gr.app _ [.live [.slice none 0 0]])).trans (Gr.app _ [.live [.nilIface]]))
 have x3:(((m ++ [MObj.live [Value.pointer (some ⟨c,0,none⟩)]]) ++ [MObj.live [.slice none 0 0]]) ++ [MObj.live [.nilIface]])[m.length]? = some (.live [Value.pointer (some ⟨c,0,none⟩)]):=get_grow (get_grow (get_last rfl))
 have x6:(((m ++ [MObj.live [Value.pointer (some ⟨c,0,none⟩)]]) ++ [MObj.live [.slice none 0 0]]) ++ [MObj.live [.nilIface]])[m.length + 1]? = some (.live [.slice none 0 0]):=get_grow (get_last (by simp))
 have x7:(((m ++ [MObj.live [Value.pointer (some ⟨c,0,none⟩)]]) ++ [MObj.live [.slice none 0 0]]) ++ [MObj.live [.nilIface]])[m.length + 2]? = some (.live [.nilIface]):=get_last (by simp)
 have e0:(((174:Nat):Int) != 174) = false:=rfl
 simp (disch:=omega) only [SX,plus,l1,l2,e0]
 generalize ((m ++ [MObj.live [Value.pointer (some ⟨c,0,none⟩)]]) ++ [MObj.live [.slice none 0 0]]) ++ [MObj.live [.nilIface]] = M3 at *
 refine .bind (seal_ok k (c:=cb) (hb.grow g3)) ?_
 rintro ⟨_,_,M0⟩ ⟨rfl,rfl,hg0,hs⟩
 simp only at hg0 hs ⊢
 have g0:=g3.trans hg0
 have hl0:m.length + 3 ≤ M0.length:=by have:=hg0.len;omega
 have hs_lt:=get_lt hs
 have z10:=get_last (m:=M0) (o:=.live [.slice none 0 0]) rfl
 have g10:=g0.trans (Gr.app M0 [.live [.slice none 0 0]])
 have s10:=get_grow (g:=[.live [.slice none 0 0]]) hs
 have x3a:=get_grow (g:=[.live [.slice none 0 0]]) (hg0.get x3)
 have x6a:=get_grow (g:=[.live [.slice none 0 0]]) (hg0.get x6)
 have x7a:=get_grow (g:=[.live [.slice none 0 0]]) (hg0.get x7)
 have hl10:(M0 ++ [MObj.live [.slice none 0 0]]).length = M0.length + 1:=by simp
 simp (disch:=omega) only [SX,plus,isNil_nil]
 generalize M0 ++ [MObj.live [.slice none 0 0]] = M1 at *
 have e1:rdSl M1 a 174 1 = some (bys 174 w):=ha.grow g10
 have e2:appM 1 1 M1 none 0 0 174 (bys 174 w) = some (⟨some ⟨M1.length,0,some 1⟩,174,174⟩,M1 ++ [.live (bys 174 w)]):=appM_first (by omega) (by unfold most;omega) (by unfold most;omega)
 have d1:=get_last (m:=M1) (o:=.live (bys 174 w)) rfl
 have e3:rdSl (M1 ++ [.live (bys 174 w)]) (some ⟨M3.length,0,none⟩) 58 1 = some (bys 58 (sealed u)):=Src.of (get_grow s10)
 have e4:appM 1 1 (M1 ++ [.live (bys 174 w)]) (some ⟨M1.length,0,some 1⟩) 174 174 58 (bys 58 (sealed u)) = some (⟨some ⟨(M1 ++ [MObj.live (bys 174 w)]).length,0,some 1⟩,174 + 58,174 + 58⟩,(M1 ++ [MObj.live (bys 174 w)]).set M1.length (.old (bys 174 w) (M1 ++ [MObj.live (bys 174 w)]).length) ++ [.live (bys 174 w ++ bys 58 (sealed u))]) :=
  appM_grow d1 (by rw [bys_len]) (by omega) (by unfold most;omega) (by unfold most;omega)
 have hset:(M1 ++ [MObj.live (bys 174 w)]).set M1.length (.old (bys 174 w) (M1 ++ [MObj.live (bys 174 w)]).length) = M1 ++ [.old (bys 174 w) (M0.length + 2)]:=by rw [List.set_append_right _ _ (Nat.le_refl _)];simp [hl10]
 have hwh:bys 174 w ++ bys 58 (sealed u) = bys 232 (whole w u):=bys_append
 have hl11:(M1 ++ [MObj.live (bys 174 w)]).length = M0.length + 2:=by simp [hl10]
 rw [hset,hwh,hl11] at e4
 have l14:(M1 ++ [MObj.old (bys 174 w) (M0.length + 2)] ++ [MObj.live (bys 232 (whole w u))]).length = M0.length + 3:=by simp [hl10]
 have e5:=pieces_is k (M1 ++ [MObj.old (bys 174 w) (M0.length + 2)] ++ [MObj.live (bys 232 (whole w u))]) (some ⟨M0.length + 2,0,some 1⟩) 232 232 58
 rw [l14] at e5
 have hgL:Gr M1 (M1 ++ [MObj.old (bys 174 w) (M0.length + 2)] ++ [MObj.live (bys 232 (whole w u))] ++ [MObj.live [.slice (some ⟨M0.length + 2,0,some 1⟩) 232 232],.live [.int .i64 58]]):=((Gr.app M1 _).trans (Gr.app _ _)).trans (Gr.app _ _)
 have ws:(M1 ++ [MObj.old (bys 174 w) (M0.length + 2)] ++ [MObj.live (bys 232 (whole w u))] ++ [MObj.live [.slice (some ⟨M0.length + 2,0,some 1⟩) 232 232],.live [.int .i64 58]])[M0.length + 2]? = some (.live (bys 232 (whole w u))):=get_grow (get_last (by simp [hl10]))
 have wb:(M1 ++ [MObj.old (bys 174 w) (M0.length + 2)] ++ [MObj.live (bys 232 (whole w u))] ++ [MObj.live [.slice (some ⟨M0.length + 2,0,some 1⟩) 232 232],.live [.int .i64 58]])[M0.length + 3]? = some (.live [.slice (some ⟨M0.length + 2,0,some 1⟩) 232 232]):=by
  rw [List.getElem?_append_right (by omega),l14];simp
 have wz:(M1 ++ [MObj.old (bys 174 w) (M0.length + 2)] ++ [MObj.live (bys 232 (whole w u))] ++ [MObj.live [.slice (some ⟨M0.length + 2,0,some 1⟩) 232 232],.live [.int .i64 58]])[M0.length + 3 + 1]? = some (.live [.int .i64 58]):=by
  rw [List.getElem?_append_right (by omega),l14];simp
 have hlL:(M1 ++ [MObj.old (bys 174 w) (M0.length + 2)] ++ [MObj.live (bys 232 (whole w u))] ++ [MObj.live [.slice (some ⟨M0.length + 2,0,some 1⟩) 232 232],.live [.int .i64 58]]).length = M0.length + 5:=by simp [hl10]
 simp (disch:=omega) only [SX,plus,e1,e2,e3,e4,e5]
 generalize (M1 ++ [MObj.old (bys 174 w) (M0.length + 2)] ++ [MObj.live (bys 232 (whole w u))] ++ [MObj.live [.slice (some ⟨M0.length + 2,0,some 1⟩) 232 232],.live [.int .i64 58]]) = ML at *
 have gL:=g10.trans hgL
 refine frame_Frame_Lay_r0_rule k _ _ _ _ _ _ _ (fun r si M => ∃ (i:Nat) (out:Option Addr) (D:Nat → Nat),si = i ∧ i + r = 4 ∧ LyI m ML M0.length w u i M out D) ?_ k 4 _ _ (by omega)
  ⟨0,none,fun _ => 0,rfl,rfl,⟨Nat.le_refl _,gL,fun _ _ _ => rfl,hgL.get z10,.inl ⟨rfl,rfl⟩,fun j hj => by omega⟩⟩
 rintro r nx _ M ⟨i,out,D,rfl,hr,hI⟩ hnx
 unfold frame_Frame_Lay_r0_b
 have b1:M[M0.length + 3]? = _:=(hI.old _ (by omega) (by omega)).trans wb
 have b2:M[M0.length + 3 + 1]? = _:=(hI.old _ (by omega) (by omega)).trans wz
 have b3:M[M0.length + 2]? = _:=(hI.old _ (by omega) (by omega)).trans ws
 have b4:M[m.length]? = _:=(hI.old _ (by omega) (by omega)).trans (hgL.get x3a)
 have b6:M[m.length + 1]? = _:=(hI.old _ (by omega) (by omega)).trans (hgL.get x6a)
 have b7:M[m.length + 2]? = _:=(hI.old _ (by omega) (by omega)).trans (hgL.get x7a)
 by_cases hi:i < 4
 ·rw [pcs_next (s:=58) b1 b2 (.inr rfl) (by omega) (by omega) (by omega) (by omega) (by omega)]
  obtain ⟨cd,c1,c2⟩:=hC.grow hI.gr
  have f1:ldPtr M ⟨m.length,0,none⟩ = some (some ⟨c,0,none⟩):=ldPtr_of b4 rfl
  have f2:ldPtr M ⟨c,0,none⟩ = some (some ⟨cd,0,none⟩):=ldPtr_of c1 rfl
  simp (disch:=omega) only [SX,plus,f1,f2]
  have hsrc:Src M (some ⟨M0.length + 2,i * 58,some 1⟩) 58 (msgs w u i):=Src.sub (sp:=some 1) b3 (by omega)
  refine .bind (encode_ok k hk c2 (cc:=232 - i * 58) hsrc) ?_
  rintro ⟨_,_,M2⟩ ⟨d,rfl,rfl,hg2,hd,h2⟩
  simp only at hg2 h2 ⊢
  have x10:=hg2.get hI.box
  have f3:ldSl M2 ⟨M0.length,0,none⟩ = some ⟨out,i,i⟩:=ldSl_of x10 rfl
  have hdl:=get_lt h2
  have hml:=hI.len
  have hgl:=hg2.len
  have row2:=(hI.row.grow hg2).grow (Gr.app M2 [.live [.slice (some ⟨d,0,none⟩) 64 64]])
  have hl2':(M2 ++ [MObj.live [.slice (some ⟨d,0,none⟩) 64 64]]).length = M2.length + 1:=by simp
  obtain ⟨M4,q1,q2,q3,q4,q5⟩:=row2.app (d:=d) (by omega) (by omega)
  rw [hl2'] at q1 q2 q3 q4
  have outne:∀ q,out = some ⟨q,0,some 1⟩ → ML.length ≤ q ∧ q < M.length:=by
   rintro q rfl
   rcases hI.row with ⟨h,_⟩ | ⟨q',h,h1,h2⟩
   ·cases h
   ·simp only [Option.some.injEq,Addr.mk.injEq,and_true] at h
    subst h
    exact ⟨h1,get_lt h2⟩
  have x10b:M4[M0.length]? = some (.live [.slice out i i]):=by
   rw [q4 _ (by omega) fun q hq => by have:=outne q hq;omega];exact get_grow x10
  have f4:=st_wr (sp:=none) (off:=0) (v:=.slice (some ⟨M2.length + 1,0,some 1⟩) (i + 1) (i + 1)) x10b (by simp)
  have hst:([.slice out i i]:List Value).set 0 (.slice (some ⟨M2.length + 1,0,some 1⟩) (i + 1) (i + 1)) = [.slice (some ⟨M2.length + 1,0,some 1⟩) (i + 1) (i + 1)]:=rfl
  rw [hst] at f4
  simp (disch:=omega) only [SX,plus,isNil_nil,f3,rdSl_new,q1,f4]
  have keep:∀ p,p < M2.length → p ≠ M0.length → (∀ q,out = some ⟨q,0,some 1⟩ → p ≠ q) → (wr M4 M0.length [.slice (some ⟨M2.length + 1,0,some 1⟩) (i + 1) (i + 1)])[p]? = M2[p]?:=fun p hp h1 h2 => by
   rw [wr_ne (Ne.symm h1),q4 p (by omega) h2,get_app_lt hp]
  refine hnx (r - 1) _ _ (by omega) ⟨i + 1,_,fun j => if j = i then d else D j,rfl,by omega,⟨by rw [wr_len];omega,(q5 m ((hI.gr.trans hg2).trans (Gr.app _ _)) (by have:=gL.len;omega)).wr (by omega) _,fun p hp h1 => ?_,wr_get x10b,.inr ⟨M2.length + 1,rfl,by omega,?_⟩,fun j hj => ?_⟩⟩
  ·rw [keep p (by omega) h1 fun q hq => by have:=outne q hq;omega]
   rw [← hI.old p hp h1]
   obtain ⟨g,rfl⟩:=hg2
   exact get_app_lt (by omega)
  ·rw [wr_ne (by omega),q3]
  ·by_cases h1:j = i
   ·subst h1
    simp only [↓reduceIte]
    refine ⟨by omega,?_,fun q hq => by cases hq;omega,fun j' hj' hne => ?_⟩
    ·rw [keep d hdl (by omega) fun q hq => by have:=outne q hq;omega];exact h2
    ·rw [if_neg (by omega)]
     obtain ⟨z1,z2,_⟩:=hI.D_ j' (by omega)
     have:=get_lt z2
     omega
   ·obtain ⟨z1,z2,z3,z4⟩:=hI.D_ j (by omega)
    have z5:=get_lt z2
    simp only [if_neg h1]
    refine ⟨z1,?_,fun q hq => by cases hq;omega,fun j' hj' hne => ?_⟩
    ·rw [keep _ (by omega) (by omega) z3];exact hg2.get z2
    ·by_cases h3:j' = i
     ·rw [if_pos h3];omega
     ·rw [if_neg h3];exact z4 j' (by omega) hne
 ·obtain rfl:i = 4:=by omega
  rw [pcs_end (s:=58) b1 b2 (by omega) (by omega) (by omega) (by omega)]
  rcases hI.row with ⟨_,h⟩ | ⟨q,hq,hq1,hq2⟩
  ·omega
  subst hq
  have f1:ldSl M ⟨M0.length,0,none⟩ = some ⟨some ⟨q,0,some 1⟩,4,4⟩:=ldSl_of hI.box rfl
  have f2:=st_wr (sp:=none) (off:=0) (v:=.slice (some ⟨q,0,some 1⟩) 4 4) b6 (by simp)
  have y7:(wr M (m.length + 1) (([.slice none 0 0]:List Value).set 0 (.slice (some ⟨q,0,some 1⟩) 4 4)))[m.length + 2]? = some (.live [.nilIface]):=by rw [wr_ne (by omega)];exact b7
  have f3:=st_wr (sp:=none) (off:=0) (v:=.nilIface) y7 (by simp)
  have f4:ldSl (wr (wr M (m.length + 1) (([.slice none 0 0]:List Value).set 0 (.slice (some ⟨q,0,some 1⟩) 4 4))) (m.length + 2) (([.nilIface]:List Value).set 0 .nilIface)) ⟨m.length + 1,0,none⟩ = some ⟨some ⟨q,0,some 1⟩,4,4⟩:=ldSl_of (cs:=[.slice (some ⟨q,0,some 1⟩) 4 4]) (by rw [wr_ne (by omega)];exact wr_get b6) rfl
  have f5:ldVal (wr (wr M (m.length + 1) (([.slice none 0 0]:List Value).set 0 (.slice (some ⟨q,0,some 1⟩) 4 4))) (m.length + 2) (([.nilIface]:List Value).set 0 .nilIface)) ⟨m.length + 2,0,none⟩ = some .nilIface:=ldVal_of (cs:=[.nilIface]) (wr_get y7) rfl
  simp (disch:=omega) only [SX,plus,f1,f2,f3,f4,f5]
  have mlL:=gL.len
  refine .some ⟨q,D,rfl,rfl,(hI.gr.wr (by omega) _).wr (by omega) _,by omega,?_,fun i hi => ?_⟩
  ·show (wr (wr M _ _) _ _)[q]? = _
   rw [wr_ne (by omega),wr_ne (by omega)];exact hq2
  ·obtain ⟨z1,z2,z3,z4⟩:=hI.D_ i hi
   refine ⟨by omega,z3 q rfl,?_,z4⟩
   show (wr (wr M _ _) _ _)[D i]? = _
   rw [wr_ne (by omega),wr_ne (by omega)];exact z2
end Go.Proofs.YtchonnaoojpdoaaGreat
set_option linter.unusedVariables false
set_option linter.unusedSectionVars false
set_option linter.unusedSimpArgs false
namespace Go.Proofs.YtchonnaoojpdoaaGreat
open Go.Mx
def wd (w:Nat → GF) (i:Nat):Nat → GF:=fun j => w (i * 64 + j)
theorem message_no (k:Nat) {m:Mem} {c:Option Addr} {a:Option Addr} {n ca:Nat} {p:Int} (h:¬ (n = 256 ∧ 0 ≤ p ∧ p ≤ 3)):frame_Frame_Message k c a n ca p m = some (⟨none,0,0⟩,0,errC 1,m):=by
 unfold frame_Frame_Message
 rw [errC_pos (by omega)]
 by_cases h1:n = 256
 ·subst h1
  have e1:(((256:Nat):Int) != 256) = false:=rfl
  rw [e1,cond_false]
  by_cases h2:p < 0
  ·rw [decide_eq_true h2,cond_true]
  ·rw [decide_eq_false h2,cond_false,decide_eq_true (show p > 3 by omega),cond_true]
 ·have e1:(((n:Nat):Int) != 256) = true:=bneI_yes (by omega)
  rw [e1,cond_true]
section
variable (k:Nat) (hk:1000 < k) {m:Mem} {c:Nat} (hC:Frm m c)
include hk hC
theorem message_ok' {ad:Addr} {ca i:Nat} {w:Nat → GF} (hw:Src m (some ad) 256 w) (hs:okS ad) (hca:256 ≤ ca) (hi:i < 4) :
 Ok (frame_Frame_Message k (some ⟨c,0,none⟩) (some ad) 256 ca i m) fun r => Gr m r.2.2.2 ∧ ((∃ u n d,GF.dec (wd w i) = some (u,n) ∧ r.1 = ⟨some ⟨d,0,none⟩,58,58⟩ ∧ r.2.1 = (n:Nat) ∧ r.2.2.1 = .nilIface ∧ m.length ≤ d ∧ r.2.2.2[d]? = some (.live (bys 64 u))) ∨
  (GF.dec (wd w i) = none ∧ r.1 = ⟨none,0,0⟩ ∧ r.2.1 = 0 ∧ r.2.2.1 = errC 5)):=by
 unfold frame_Frame_Message
 obtain ⟨cd,c1,c2⟩:=hC
 have e1:(((256:Nat):Int) != 256) = false:=rfl
 have f2:ldPtr m ⟨c,0,none⟩ = some (some ⟨cd,0,none⟩):=ldPtr_of c1 rfl
 have w2:IntKind.wrap .i64 ((i:Int) + 1) = ((i + 1:Nat):Int):=by rw [wrap_i64 (by omega) (by omega)];simp
 have w1:IntKind.wrap .i64 ((i:Int) * 64) = ((i * 64:Nat):Int):=by rw [wrap_i64 (by omega) (by omega)];simp
 have w3:IntKind.wrap .i64 (((i + 1:Nat):Int) * 64) = ((i * 64 + 64:Nat):Int):=by
  rw [wrap_i64 (by omega) (by omega)];omega
 have u1:inUpto ((i * 64 + 64:Nat):Int) ca = true:=inUpto_yes (by omega) (by omega)
 have u2:inUpto ((i * 64:Nat):Int) (i * 64 + 64) = true:=inUpto_yes (by omega) (by omega)
 simp only [e1,cond_false,decide_eq_false (show ¬ (i:Int) < 0 by omega),decide_eq_false (show ¬ (i:Int) > 3 by omega),Option.bind_some,plus,Nat.add_zero,f2,w2,w1,w3,hs.z,u1,u2,Bool.and_self,cond_true,Int.toNat_natCast,Nat.mul_one,clear_f,Option.map_some]
 rw [show i * 64 + 64 - i * 64 = 64 by omega]
 refine .bind (decode_ok k hk c2 (cc:=ca - i * 64) (hw.part (o:=i * 64) (l:=64) (by omega))) ?_
 rintro r ⟨h1,h2⟩
 exact .some ⟨h1,h2⟩
def mxN (N:Nat → Nat):Nat → Nat
 | 0 => 0
 | i + 1 => max (mxN N i) (N i)
omit hk hC in
theorem maxI_nat (a b:Nat):maxI (a:Int) (b:Int) = ((max a b:Nat):Int):=by
 unfold maxI;split <;> omega
theorem body_ok {ad:Addr} {ca:Nat} {w:Nat → GF} (hw:Src m (some ad) 256 w) (hs:okS ad) (hca:256 ≤ ca) :
 Ok (frame_Frame_Body k (some ⟨c,0,none⟩) (some ad) 256 ca m) fun r => Gr m r.2.2.2 ∧ ((∃ u n d,GF.dec (wd w 3) = some (u,n) ∧ marked u ∧ r.1 = ⟨some ⟨d,0,none⟩,50,50⟩ ∧ r.2.1 = (n:Nat) ∧ r.2.2.1 = .nilIface ∧ m.length ≤ d ∧ r.2.2.2[d]? = some (.live (bys 58 u))) ∨
  (∃ u n,GF.dec (wd w 3) = some (u,n) ∧ ¬ marked u ∧ r.1 = ⟨none,0,0⟩ ∧ r.2.1 = 0 ∧ r.2.2.1 = errC 6) ∨ (GF.dec (wd w 3) = none ∧ r.1 = ⟨none,0,0⟩ ∧ r.2.1 = 0 ∧ r.2.2.1 = errC 5)):=by
 unfold frame_Frame_Body
 refine .bind (message_ok' k hk hC hw hs hca (i:=3) (by omega)) ?_
 rintro ⟨_,_,_,m1⟩ ⟨hg1,⟨u,n,d,hd,rfl,rfl,rfl,h1,h2⟩ | ⟨hd,rfl,rfl,rfl⟩⟩
 ·simp only at hg1 h2 ⊢
  simp (disch:=omega) only [SX,plus,isNil_nil]
  refine .bind (open_ok k (c:=58) (Src.take (sp:=none) h2 (l:=58) (by omega))) ?_
  rintro ⟨_,_,m2⟩ ⟨hg2,⟨hm,d2,rfl,rfl,h3,h4⟩ | ⟨hm,rfl,rfl⟩⟩
  ·simp only at hg2 h4 ⊢
   simp (disch:=omega) only [SX,plus,isNil_nil]
   exact .some ⟨hg1.trans hg2,.inl ⟨u,n,d2,hd,hm,rfl,rfl,rfl,by have:=hg1.len;omega,h4⟩⟩
  ·simp only at hg2 ⊢
   have e3:isNil (errC 6) = some false:=rfl
   simp (disch:=omega) only [SX,plus,e3]
   exact .some ⟨hg1.trans hg2,.inr (.inl ⟨u,n,hd,hm,rfl,rfl,rfl⟩)⟩
 ·simp only at hg1 ⊢
  have e3:isNil (errC 5) = some false:=rfl
  simp (disch:=omega) only [SX,plus,e3]
  exact .some ⟨hg1,.inr (.inr ⟨hd,rfl,rfl,rfl⟩)⟩
structure DaI (m ML:Mem) (x7 x8:Nat) (w:Nat → GF) (i:Nat) (M:Mem) (out:Option Addr) (U:Nat → Nat → GF) (N:Nat → Nat):Prop where
 len:ML.length ≤ M.length
 gr:Gr m M
 old:∀ p,p < ML.length → p ≠ x7 → p ≠ x8 → M[p]? = ML[p]?
 b7:M[x7]? = some (.live [.slice out (i * 58) (i * 58)])
 b8:M[x8]? = some (.live [.int .i64 (mxN N i:Nat)])
 out_:Ac ML.length M out (i * 58) fun j => U (j / 58) (j % 58)
 dec_:∀ j,j < i → GF.dec (wd w j) = some (U j,N j)
theorem data_ok {ad:Addr} {ca:Nat} {w:Nat → GF} (hw:Src m (some ad) 256 w) (hs:okS ad) (hca:256 ≤ ca) :
 Ok (frame_Frame_Data k (some ⟨c,0,none⟩) (some ad) 256 ca m) fun r => Gr m r.2.2.2 ∧ ((∃ (U:Nat → Nat → GF) (N:Nat → Nat) (q:Nat),(∀ j,j < 3 → GF.dec (wd w j) = some (U j,N j)) ∧ r.1 = ⟨some ⟨q,0,some 1⟩,174,174⟩ ∧ r.2.1 = (mxN N 3:Nat) ∧ r.2.2.1 = .nilIface ∧ m.length ≤ q ∧ r.2.2.2[q]? = some (.live (bys 174 fun j => U (j / 58) (j % 58)))) ∨
  (∃ j,j < 3 ∧ GF.dec (wd w j) = none ∧ r.1 = ⟨none,0,0⟩ ∧ r.2.1 = 0 ∧ r.2.2.1 = errC 5)):=by
 unfold frame_Frame_Data
 have l1:(m ++ [MObj.live [Value.pointer (some ⟨c,0,none⟩)]]).length = m.length + 1:=by simp
 have l2:((m ++ [MObj.live [Value.pointer (some ⟨c,0,none⟩)]]) ++ [MObj.live [.slice none 0 0]]).length = m.length + 2:=by simp
 have l3:(((m ++ [MObj.live [Value.pointer (some ⟨c,0,none⟩)]]) ++ [MObj.live [.slice none 0 0]]) ++ [MObj.live [.int .i64 0]]).length = m.length + 3:=by simp
 have l4:((((m ++ [MObj.live [Value.pointer (some ⟨c,0,none⟩)]]) ++ [MObj.live [.slice none 0 0]]) ++ [MObj.live [.int .i64 0]]) ++ [MObj.live [.nilIface]]).length = m.length + 4:=by simp
 have l5:(((((m ++ [MObj.live [Value.pointer (some ⟨c,0,none⟩)]]) ++ [MObj.live [.slice none 0 0]]) ++ [MObj.live [.int .i64 0]]) ++ [MObj.live [.nilIface]]) ++ [MObj.live [.slice none 0 0]]).length = m.length + 5:=by simp
 have g6:=(((((Gr.app m [.live [Value.pointer (some ⟨c,0,none⟩)]]).trans (Gr.app _ [.live [.slice none 0 0]])).trans (Gr.app _ [.live [.int .i64 0]])).trans (Gr.app _ [.live [.nilIface]])).trans (Gr.app _ [.live [.slice none 0 0]])).trans (Gr.app _ [.live [.int .i64 0]])
 have x2:((((((m ++ [MObj.live [Value.pointer (some ⟨c,0,none⟩)]]) ++ [MObj.live [.slice none 0 0]]) ++ [MObj.live [.int .i64 0]]) ++ [MObj.live [.nilIface]]) ++ [MObj.live [.slice none 0 0]]) ++ [MObj.live [.int .i64 0]])[m.length]? = some (.live [Value.pointer (some ⟨c,0,none⟩)]):=get_grow (get_grow (get_grow (get_grow (get_grow (get_last rfl)))))
 have x4:((((((m ++ [MObj.live [Value.pointer (some ⟨c,0,none⟩)]]) ++ [MObj.live [.slice none 0 0]]) ++ [MObj.live [.int .i64 0]]) ++ [MObj.live [.nilIface]]) ++ [MObj.live [.slice none 0 0]]) ++ [MObj.live [.int .i64 0]])[m.length + 1]? = some (.live [.slice none 0 0]):=get_grow (get_grow (get_grow (get_grow (get_last (by simp)))))
 have x5:((((((m ++ [MObj.live [Value.pointer (some ⟨c,0,none⟩)]]) ++ [MObj.live [.slice none 0 0]]) ++ [MObj.live [.int .i64 0]]) ++ [MObj.live [.nilIface]]) ++ [MObj.live [.slice none 0 0]]) ++ [MObj.live [.int .i64 0]])[m.length + 2]? = some (.live [.int .i64 0]):=get_grow (get_grow (get_grow (get_last (by simp))))
 have x6:((((((m ++ [MObj.live [Value.pointer (some ⟨c,0,none⟩)]]) ++ [MObj.live [.slice none 0 0]]) ++ [MObj.live [.int .i64 0]]) ++ [MObj.live [.nilIface]]) ++ [MObj.live [.slice none 0 0]]) ++ [MObj.live [.int .i64 0]])[m.length + 3]? = some (.live [.nilIface]):=get_grow (get_grow (get_last (by simp)))
 have x7:((((((m ++ [MObj.live [Value.pointer (some ⟨c,0,none⟩)]]) ++ [MObj.live [.slice none 0 0]]) ++ [MObj.live [.int .i64 0]]) ++ [MObj.live [.nilIface]]) ++ [MObj.live [.slice none 0 0]]) ++ [MObj.live [.int .i64 0]])[m.length + 4]? = some (.live [.slice none 0 0]):=get_grow (get_last (by simp))
 have x8:((((((m ++ [MObj.live [Value.pointer (some ⟨c,0,none⟩)]]) ++ [MObj.live [.slice none 0 0]]) ++ [MObj.live [.int .i64 0]]) ++ [MObj.live [.nilIface]]) ++ [MObj.live [.slice none 0 0]]) ++ [MObj.live [.int .i64 0]])[m.length + 5]? = some (.live [.int .i64 0]):=get_last (by simp)
 have l6:((((((m ++ [MObj.live [Value.pointer (some ⟨c,0,none⟩)]]) ++ [MObj.live [.slice none 0 0]]) ++ [MObj.live [.int .i64 0]]) ++ [MObj.live [.nilIface]]) ++ [MObj.live [.slice none 0 0]]) ++ [MObj.live [.int .i64 0]]).length = m.length + 6:=by simp
 have e0:(((256:Nat):Int) != 256) = false:=rfl
 have u0:inUpto 192 ca = true:=inUpto_yes (by omega) (by omega)
 have t0:Int.toNat 192 = 192:=rfl
 simp (disch:=omega) only [SX,plus,l1,l2,l3,l4,l5,e0,u0,t0,clear_f]
 generalize (((((m ++ [MObj.live [Value.pointer (some ⟨c,0,none⟩)]]) ++ [MObj.live [.slice none 0 0]]) ++ [MObj.live [.int .i64 0]]) ++ [MObj.live [.nilIface]]) ++ [MObj.live [.slice none 0 0]]) ++ [MObj.live [.int .i64 0]] = M6 at *
 have f0:=st_wr (sp:=none) (off:=0) (v:=.int .i64 0) x8 (by simp)
 have hs0:([.int .i64 0]:List Value).set 0 (.int .i64 0) = [.int .i64 0]:=rfl
 rw [hs0,wr_same x8] at f0
 have e5:=pieces_is k M6 (some ad) 192 ca 64
 rw [l6] at e5
 have gb:(M6 ++ [MObj.live [.slice (some ad) 192 ca],.live [.int .i64 64]])[m.length + 6]? = some (.live [.slice (some ad) 192 ca]):=by rw [List.getElem?_append_right (by omega),l6];simp
 have gz:(M6 ++ [MObj.live [.slice (some ad) 192 ca],.live [.int .i64 64]])[m.length + 6 + 1]? = some (.live [.int .i64 64]):=by rw [List.getElem?_append_right (by omega),l6];simp
 have hgL:Gr M6 (M6 ++ [MObj.live [.slice (some ad) 192 ca],.live [.int .i64 64]]):=Gr.app _ _
 have hlL:(M6 ++ [MObj.live [.slice (some ad) 192 ca],.live [.int .i64 64]]).length = m.length + 8:=by simp [l6]
 simp (disch:=omega) only [SX,plus,f0,e5]
 generalize M6 ++ [MObj.live [.slice (some ad) 192 ca],.live [.int .i64 64]] = ML at *
 have gL:=g6.trans hgL
 have hwL:=hw.grow gL
 refine frame_Frame_Data_r0_rule k _ _ _ _ _ _ _ _ _ (fun r si M => ∃ (i:Nat) (out:Option Addr) (U:Nat → Nat → GF) (N:Nat → Nat),si = i ∧ i + r = 3 ∧ DaI m ML (m.length + 4) (m.length + 5) w i M out U N) ?_ k 3 _ _ (by omega)
  ⟨0,none,fun _ _ => 0,fun _ => 0,rfl,rfl,⟨Nat.le_refl _,gL,fun _ _ _ _ => rfl,hgL.get x7,hgL.get x8,.inl ⟨rfl,rfl⟩,fun j hj => by omega⟩⟩
 rintro r nx _ M ⟨i,out,U,N,rfl,hr,hI⟩ hnx
 unfold frame_Frame_Data_r0_b
 have b1:M[m.length + 6]? = _:=(hI.old _ (by omega) (by omega) (by omega)).trans gb
 have b2:M[m.length + 6 + 1]? = _:=(hI.old _ (by omega) (by omega) (by omega)).trans gz
 have b_2:M[m.length]? = _:=(hI.old _ (by omega) (by omega) (by omega)).trans (hgL.get x2)
 have b_4:M[m.length + 1]? = _:=(hI.old _ (by omega) (by omega) (by omega)).trans (hgL.get x4)
 have b_5:M[m.length + 2]? = _:=(hI.old _ (by omega) (by omega) (by omega)).trans (hgL.get x5)
 have b_6:M[m.length + 3]? = _:=(hI.old _ (by omega) (by omega) (by omega)).trans (hgL.get x6)
 have hml:=hI.len
 have fin:∀ (M:Mem) (s:Sl) (n:Int) (e:Value) (cs4 cs5 cs6:MObj),M[m.length + 1]? = some (.live [.slice none 0 0]) → M[m.length + 2]? = some (.live [.int .i64 0]) → M[m.length + 3]? = some (.live [.nilIface]) →
  ∃ M4 M5 M6,st M ⟨m.length + 1,0,none⟩ (.slice s.a s.len s.cap) = some M4 ∧ st M4 ⟨m.length + 2,0,none⟩ (.int .i64 n) = some M5 ∧ st M5 ⟨m.length + 3,0,none⟩ e = some M6 ∧
   ldSl M6 ⟨m.length + 1,0,none⟩ = some s ∧ ldInt .i64 M6 ⟨m.length + 2,0,none⟩ = some n ∧ ldVal M6 ⟨m.length + 3,0,none⟩ = some e ∧ (∀ p,p ≠ m.length + 1 → p ≠ m.length + 2 → p ≠ m.length + 3 → M6[p]? = M[p]?) ∧ (∀ p,p ≠ m.length + 1 → M4[p]? = M[p]?) ∧ (∀ m0,Gr m0 M → m0.length ≤ m.length → Gr m0 M6):=by
  intro M s n e _ _ _ y4 y5 y6
  have q4:=st_wr (sp:=none) (off:=0) (v:=.slice s.a s.len s.cap) y4 (by simp)
  have y5':(wr M (m.length + 1) (([.slice none 0 0]:List Value).set 0 (.slice s.a s.len s.cap)))[m.length + 2]? = some (.live [.int .i64 0]):=by rw [wr_ne (by omega)];exact y5
  have q5:=st_wr (sp:=none) (off:=0) (v:=.int .i64 n) y5' (by simp)
  have y6':(wr (wr M (m.length + 1) (([.slice none 0 0]:List Value).set 0 (.slice s.a s.len s.cap))) (m.length + 2) (([.int .i64 0]:List Value).set 0 (.int .i64 n)))[m.length + 3]? = some (.live [.nilIface]):=by rw [wr_ne (by omega),wr_ne (by omega)];exact y6
  have q6:=st_wr (sp:=none) (off:=0) (v:=e) y6' (by simp)
  refine ⟨_,_,_,q4,q5,q6,ldSl_of (cs:=[.slice s.a s.len s.cap]) (by rw [wr_ne (by omega),wr_ne (by omega)];exact wr_get y4) rfl,ldInt_of (cs:=[.int .i64 n]) (by rw [wr_ne (by omega)];exact wr_get y5') rfl,ldVal_of (cs:=[e]) (wr_get y6') rfl,
   fun p h1 h2 h3 => by rw [wr_ne (Ne.symm h3),wr_ne (Ne.symm h2),wr_ne (Ne.symm h1)],fun p h1 => by rw [wr_ne (Ne.symm h1)],fun m0 h0 h1 => ((h0.wr (by omega) _).wr (by omega) _).wr (by omega) _⟩
 by_cases hi:i < 3
 ·rw [pcs_next (s:=64) b1 b2 hs (by omega) (by omega) (by omega) (by omega) (by omega)]
  obtain ⟨cd,c1,c2⟩:=hC.grow hI.gr
  have f1:ldPtr M ⟨m.length,0,none⟩ = some (some ⟨c,0,none⟩):=ldPtr_of b_2 rfl
  have f2:ldPtr M ⟨c,0,none⟩ = some (some ⟨cd,0,none⟩):=ldPtr_of c1 rfl
  simp (disch:=omega) only [SX,plus,f1,f2]
  have hsrc:Src M (some (plus ad (i * 64))) 64 (wd w i):=(hw.grow hI.gr).part (by omega)
  refine .bind (decode_ok k hk c2 (cc:=ca - i * 64) hsrc) ?_
  rintro ⟨_,_,_,M2⟩ ⟨hg2,⟨u,n,d,hd,rfl,rfl,rfl,h1,h2⟩ | ⟨hd,rfl,rfl,rfl⟩⟩
  ·simp only at hg2 h2 ⊢
   have hgl:=hg2.len
   have y7:=hg2.get hI.b7
   have y8:=hg2.get hI.b8
   have f3:ldSl M2 ⟨m.length + 4,0,none⟩ = some ⟨out,i * 58,i * 58⟩:=ldSl_of y7 rfl
   have f4:rdSl M2 (some ⟨d,0,none⟩) 58 1 = some (bys 58 u):=Src.take (sp:=none) h2 (by omega)
   have hA:=hI.out_.keep (m':=M2) fun p o _ ho => hg2.get ho
   obtain ⟨M3,q1,q2,q3,q4,q5,q6⟩:=hA.app (u:=u) (l:=58) (by omega) (by omega) (by unfold most;omega)
   have outne:∀ q,out = some ⟨q,0,some 1⟩ → ML.length ≤ q ∧ q < M.length:=by
    rintro q rfl
    rcases hI.out_ with ⟨h,_⟩ | ⟨q',h,h1,h2⟩
    ·cases h
    ·simp only [Option.some.injEq,Addr.mk.injEq,and_true] at h
     subst h
     exact ⟨h1,get_lt h2⟩
   have y7b:M3[m.length + 4]? = _:=(q5 _ (by omega) fun q hq => by have:=outne q hq;omega).trans y7
   have y8b:M3[m.length + 5]? = _:=(q5 _ (by omega) fun q hq => by have:=outne q hq;omega).trans y8
   have f5:=st_wr (sp:=none) (off:=0) (v:=.slice (some ⟨M2.length,0,some 1⟩) (i * 58 + 58) (i * 58 + 58)) y7b (by simp)
   have y8c:(wr M3 (m.length + 4) (([.slice out (i * 58) (i * 58)]:List Value).set 0 (.slice (some ⟨M2.length,0,some 1⟩) (i * 58 + 58) (i * 58 + 58))))[m.length + 5]? = some (.live [.int .i64 (mxN N i:Nat)]):=by rw [wr_ne (by omega)];exact y8b
   have f6:ldInt .i64 (wr M3 (m.length + 4) (([.slice out (i * 58) (i * 58)]:List Value).set 0 (.slice (some ⟨M2.length,0,some 1⟩) (i * 58 + 58) (i * 58 + 58)))) ⟨m.length + 5,0,none⟩ = some ((mxN N i:Nat):Int):=ldInt_of y8c rfl
   have f7:=st_wr (sp:=none) (off:=0) (v:=.int .i64 (maxI (mxN N i:Nat) (n:Nat))) y8c (by simp)
   simp (disch:=omega) only [SX,plus,isNil_nil,f3,f4,q1,f5,f6,f7]
   have hst7:([.slice out (i * 58) (i * 58)]:List Value).set 0 (.slice (some ⟨M2.length,0,some 1⟩) (i * 58 + 58) (i * 58 + 58)) = [.slice (some ⟨M2.length,0,some 1⟩) (i * 58 + 58) (i * 58 + 58)]:=rfl
   have hst8:([.int .i64 (mxN N i:Nat)]:List Value).set 0 (.int .i64 (maxI (mxN N i:Nat) (n:Nat))) = [.int .i64 (maxI (mxN N i:Nat) (n:Nat))]:=rfl
   rw [hst7,hst8]
   rw [hst7] at y8c
   refine hnx (r - 1) _ _ (by omega) ⟨i + 1,some ⟨M2.length,0,some 1⟩,fun j => if j = i then u else U j,fun j => if j = i then n else N j,rfl,by omega,⟨?_,?_,?_,?_,?_,?_,?_⟩⟩
   ·rw [wr_len,wr_len];omega
   ·exact ((q6 m (hI.gr.trans hg2) (by have:=gL.len;omega)).wr (by omega) _).wr (by omega) _
   ·intro p hp h7 h8
    rw [wr_ne (Ne.symm h8),wr_ne (Ne.symm h7),q5 p (by omega) fun q hq => by have:=outne q hq;omega,← hI.old p hp h7 h8]
    obtain ⟨g,rfl⟩:=hg2
    exact get_app_lt (by omega)
   ·rw [wr_ne (by omega),show (i + 1) * 58 = i * 58 + 58 by omega];exact wr_get y7b
   ·rw [wr_get y8c]
    have hmx:mxN (fun j => if j = i then n else N j) (i + 1) = max (mxN N i) n:=by
     have hc:∀ t,t ≤ i → mxN (fun j => if j = i then n else N j) t = mxN N t:=by
      intro t
      induction t with
      | zero => exact fun _ => rfl
      | succ t ih => intro ht;rw [mxN,mxN,ih (by omega),if_neg (by omega)]
     rw [mxN,hc i (Nat.le_refl _),if_pos rfl]
    rw [hmx,maxI_nat]
   ·have q2':=q2.keep (m':=wr (wr M3 (m.length + 4) [.slice (some ⟨M2.length,0,some 1⟩) (i * 58 + 58) (i * 58 + 58)]) (m.length + 5) [.int .i64 (maxI (mxN N i:Nat) (n:Nat))]) fun p o hp ho => by rw [wr_ne (by omega),wr_ne (by omega)];exact ho
    rw [show (i + 1) * 58 = i * 58 + 58 by omega]
    refine q2'.congr fun j hj => ?_
    by_cases h5:j < i * 58
    ·rw [if_pos h5,if_neg (by omega)]
    ·rw [if_neg h5,if_pos (by omega),show j % 58 = j - i * 58 by omega]
   ·intro j hj
    by_cases h5:j = i
    ·subst h5;simp only [↓reduceIte];exact hd
    ·simp only [if_neg h5];exact hI.dec_ j (by omega)
  ·simp only at hg2 ⊢
   have e3:isNil (errC 5) = some false:=rfl
   have e4:isOne (errC 5) = true:=rfl
   obtain ⟨A4,A5,A6,a1,a2,a3,a4,a5,a6,_,_,a9⟩:=fin M2 ⟨none,0,0⟩ 0 (errC 5) .dead .dead .dead (hg2.get b_4) (hg2.get b_5) (hg2.get b_6)
   simp only at a1
   simp (disch:=omega) only [SX,plus,e3,e4,a1,a2,a3,a4,a5,a6]
   exact .some ⟨a9 m (hI.gr.trans hg2) (Nat.le_refl _),.inr ⟨i,hi,hd,rfl,rfl,rfl⟩⟩
 ·obtain rfl:i = 3:=by omega
  rw [pcs_end (s:=64) b1 b2 (by omega) (by omega) (by omega) (by omega)]
  rcases hI.out_ with ⟨_,h⟩ | ⟨q,rfl,hq1,hq2⟩
  ·omega
  have f1:ldSl M ⟨m.length + 4,0,none⟩ = some ⟨some ⟨q,0,some 1⟩,174,174⟩:=ldSl_of hI.b7 rfl
  have f2:ldInt .i64 M ⟨m.length + 5,0,none⟩ = some ((mxN N 3:Nat):Int):=ldInt_of hI.b8 rfl
  obtain ⟨A4,A5,A6,a1,a2,a3,a4,a5,a6,a7,a8,a9⟩:=fin M ⟨some ⟨q,0,some 1⟩,174,174⟩ (mxN N 3:Nat) .nilIface .dead .dead .dead b_4 b_5 b_6
  have f3:ldInt .i64 A4 ⟨m.length + 5,0,none⟩ = some ((mxN N 3:Nat):Int):=ldInt_of (by rw [a8 _ (by omega)];exact hI.b8) rfl
  have f4:(((mxN N 3:Nat):Int) == ((mxN N 3:Nat):Int)) = true:=by simp
  simp only at a1
  simp (disch:=omega) only [SX,plus,f1,f2,a1,a2,a3,f3,f4,a4,a5,a6]
  refine .some ⟨a9 m hI.gr (Nat.le_refl _),.inl ⟨U,N,q,hI.dec_,rfl,rfl,rfl,by omega,?_⟩⟩
  show A6[q]? = _
  rw [a7 q (by omega) (by omega) (by omega)]
  exact hq2
end
end Go.Proofs.YtchonnaoojpdoaaGreat
set_option linter.unusedVariables false
set_option linter.unusedSectionVars false
set_option linter.unusedSimpArgs false
namespace Go.Proofs.YtchonnaoojpdoaaGreat
open Go.Mx
theorem mark_cells7:[Value.int .u8 112,.int .u8 97,.int .u8 116,.int .u8 105,.int .u8 110,.int .u8 97,.int .u8 48,.int .u8 49] = bys 8 mrk:=by kernel_rfl
theorem refMarked_ok (k:Nat) (hk:1000 < k) {m:Mem} {a:Option Addr} {n c:Nat} {u:Nat → GF} (hu:Src m a n u) (hn:58 ≤ n) :
 Ok (patinaref03_Marked k a n c m) fun r => Gr m r.2 ∧ (r.1 = true ↔ marked u):=by
 unfold patinaref03_Marked patinaref03_Mark
 simp (disch:=omega) only [SX,plus,mark_cells7]
 have hu1:=hu.grow (Gr.app m [.live (bys 8 mrk)])
 have hm:=get_last (m:=m) (o:=.live (bys 8 mrk)) rfl
 refine patinaref03_Marked_l0_rule k _ _ (fun r x0a x0n x0c x3a x3n x3c x4 M => a = x0a ∧ n = x0n ∧ c = x0c ∧ (some ⟨m.length,0,none⟩:Option Addr) = x3a ∧ 8 = x3n ∧ 8 = x3c ∧ m ++ [.live (bys 8 mrk)] = M ∧ ∃ j:Nat,x4 = j ∧ j + r = 8 ∧ ∀ i,i < j → u (50 + i) = mrk i) ?_ k 8 _ _ _ _ _ _ _ _ (by omega)
  ⟨rfl,rfl,rfl,rfl,rfl,rfl,rfl,0,rfl,by omega,fun i hi => by omega⟩
 rintro r nx _ _ _ _ _ _ _ _ ⟨rfl,rfl,rfl,rfl,rfl,rfl,rfl,j,rfl,hr,hw⟩ hnx
 unfold patinaref03_Marked_l0_b
 by_cases hj:(j:Int) < 8
 ·obtain ⟨ad,rfl,e1⟩:=hu1.ld (i:=50 + j) (by omega)
  unfold plus at e1
  have e2:=bys_ld (sp:=none) hm (i:=j) (by omega)
  have w1:(50:Int) + (j:Int) = ((50 + j:Nat):Int):=by omega
  have w2:IntKind.wrap .i64 ((50:Int) + (j:Int)) = ((50 + j:Nat):Int):=by rw [w1,wrap_i64 (by omega) (by omega)]
  have i1:inRange ((50 + j:Nat):Int) n = true:=inRange_yes (by omega) (by omega)
  simp (disch:=omega) only [SX,plus,w2,i1,e1,e2,v_bne]
  by_cases h1:u (50 + j) = mrk j
  ·rw [decide_eq_true h1]
   simp (disch:=omega) only [SX,plus]
   refine hnx (r - 1) _ _ _ _ _ _ _ _ (by omega) ⟨rfl,rfl,rfl,rfl,rfl,rfl,rfl,j + 1,by omega,by omega,fun i hi => ?_⟩
   by_cases h2:i = j
   ·rw [h2];exact h1
   ·exact hw i (by omega)
  ·rw [decide_eq_false h1]
   simp (disch:=omega) only [SX,plus]
   exact .some ⟨Gr.app _ _,⟨fun h => (by cases h),fun h => absurd (h j (by omega)) h1⟩⟩
 ·obtain rfl:j = 8:=by omega
  simp (disch:=omega) only [SX,plus]
  exact .some ⟨Gr.app _ _,⟨fun _ => hw,fun _ => rfl⟩⟩
theorem refMessage_no (k:Nat) {m:Mem} {a:Option Addr} {n ca:Nat} {p:Int} (h:¬ (n = 256 ∧ 0 ≤ p ∧ p ≤ 3)):patinaref06_Message k a n ca p m = some (⟨none,0,0⟩,0,1,m):=by
 unfold patinaref06_Message
 by_cases h1:n = 256
 ·subst h1
  have e1:(((256:Nat):Int) != 256) = false:=rfl
  rw [e1,cond_false]
  by_cases h2:p < 0
  ·rw [decide_eq_true h2,cond_true]
  ·rw [decide_eq_false h2,cond_false,decide_eq_true (show p > 3 by omega),cond_true]
 ·have e1:(((n:Nat):Int) != 256) = true:=bneI_yes (by omega)
  rw [e1,cond_true]
section
variable (k:Nat) (hk:1000 < k) {m:Mem} {ad:Addr} {ca:Nat} {w:Nat → GF} (hw:Src m (some ad) 256 w) (hs:okS ad) (hca:256 ≤ ca)
include hk hw hs hca
theorem refMessage_ok {i:Nat} (hi:i < 4) :
 Ok (patinaref06_Message k (some ad) 256 ca i m) fun r => Gr m r.2.2.2 ∧ ((∃ u n d,GF.dec (wd w i) = some (u,n) ∧ r.1 = ⟨some ⟨d,0,some 1⟩,58,64⟩ ∧ r.2.1 = (n:Nat) ∧ r.2.2.1 = 0 ∧ m.length ≤ d ∧ ∃ u',r.2.2.2[d]? = some (.live (bys 64 u')) ∧ ∀ i,i < 64 → u' i = u i) ∨
  (GF.dec (wd w i) = none ∧ r.1 = ⟨none,0,0⟩ ∧ r.2.1 = 0 ∧ r.2.2.1 = 5)):=by
 unfold patinaref06_Message
 have e1:(((256:Nat):Int) != 256) = false:=rfl
 have w1:IntKind.wrap .i64 (64 * (i:Int)) = ((i * 64:Nat):Int):=by rw [wrap_i64 (by omega) (by omega)];simp;omega
 have w3:IntKind.wrap .i64 (((i * 64:Nat):Int) + 64) = ((i * 64 + 64:Nat):Int):=by
  rw [wrap_i64 (by omega) (by omega)];omega
 have u1:inUpto ((i * 64 + 64:Nat):Int) ca = true:=inUpto_yes (by omega) (by omega)
 have u2:inUpto ((i * 64:Nat):Int) (i * 64 + 64) = true:=inUpto_yes (by omega) (by omega)
 simp only [e1,cond_false,decide_eq_false (show ¬ (i:Int) < 0 by omega),decide_eq_false (show ¬ (i:Int) > 3 by omega),w1,w3,hs.z,u1,u2,Bool.and_self,cond_true,Int.toNat_natCast,Nat.mul_one,clear_f,Option.map_some]
 rw [show i * 64 + 64 - i * 64 = 64 by omega]
 refine .bind (refDecode_ok k hk (c:=ca - i * 64) (hw.part (o:=i * 64) (l:=64) (by omega))) ?_
 rintro ⟨_,_,_,m1⟩ ⟨hg,⟨u,n,d,h1,rfl,rfl,rfl,h2,h3⟩ | ⟨h1,rfl⟩⟩
 ·simp (disch:=omega) only [SX,plus]
  exact .some ⟨hg,.inl ⟨u,n,d,h1,rfl,rfl,rfl,h2,h3⟩⟩
 ·simp (disch:=omega) only [SX,plus]
  exact .some ⟨hg,.inr ⟨h1,rfl,rfl,rfl⟩⟩
theorem refBody_ok:Ok (patinaref06_Body k (some ad) 256 ca m) fun r => Gr m r.2.2.2 ∧ ((∃ u n d,GF.dec (wd w 3) = some (u,n) ∧ marked u ∧ r.1 = ⟨some ⟨d,0,some 1⟩,50,64⟩ ∧ r.2.1 = (n:Nat) ∧ r.2.2.1 = 0 ∧ Src r.2.2.2 (some ⟨d,0,some 1⟩) 50 u) ∨
 (∃ u n,GF.dec (wd w 3) = some (u,n) ∧ ¬ marked u ∧ r.1 = ⟨none,0,0⟩ ∧ r.2.1 = 0 ∧ r.2.2.1 = 6) ∨ (GF.dec (wd w 3) = none ∧ r.1 = ⟨none,0,0⟩ ∧ r.2.1 = 0 ∧ r.2.2.1 = 5)):=by
 unfold patinaref06_Body
 refine .bind (refMessage_ok k hk hw hs hca (i:=3) (by omega)) ?_
 rintro ⟨_,_,_,m1⟩ ⟨hg,⟨u,n,d,h1,rfl,rfl,rfl,h2,u',h3,h4⟩ | ⟨h1,rfl,rfl,rfl⟩⟩
 ·have n0:((0:Int) != 0) = false:=rfl
  simp only at hg h3 ⊢
  simp (disch:=omega) only [SX,plus,n0]
  refine .bind (refMarked_ok k hk (c:=64) (Src.take (sp:=some 1) h3 (l:=58) (by omega)) (by omega)) ?_
  rintro ⟨z,m2⟩ ⟨hg2,hz⟩
  simp only at hg2 hz ⊢
  have hmk:marked u' ↔ marked u:=by
   unfold marked
   constructor
   ·intro h i hi;rw [← h4 _ (by omega)];exact h i hi
   ·intro h i hi;rw [h4 _ (by omega)];exact h i hi
  cases z with
  | true =>
   have i50:inUpto 50 64 = true:=rfl
   simp (disch:=omega) only [SX,plus,i50,clear_f]
   exact .some ⟨hg.trans hg2,.inl ⟨u,n,d,h1,hmk.1 (hz.1 rfl),rfl,rfl,rfl,(Src.take (sp:=some 1) (hg2.get h3) (l:=50) (by omega)).congr fun i hi => (h4 i (by omega)).symm⟩⟩
  | false =>
   simp (disch:=omega) only [SX,plus]
   exact .some ⟨hg.trans hg2,.inr (.inl ⟨u,n,h1,fun h => (by have:=hz.2 (hmk.2 h);cases this),rfl,rfl,rfl⟩)⟩
 ·have n5:((5:Int) != 0) = true:=rfl
  simp (disch:=omega) only [SX,plus,n5]
  exact .some ⟨hg,.inr (.inr ⟨h1,rfl,rfl,rfl⟩)⟩
structure RdI (m M:Mem) (w:Nat → GF) (i:Nat) (out:Option Addr) (U:Nat → Nat → GF) (N:Nat → Nat):Prop where
 gr:Gr m M
 out_:Ac m.length M out (i * 58) fun j => U (j / 58) (j % 58)
 dec_:∀ j,j < i → GF.dec (wd w j) = some (U j,N j)
theorem refData_ok:Ok (patinaref06_Data k (some ad) 256 ca m) fun r => Gr m r.2.2.2 ∧ ((∃ (U:Nat → Nat → GF) (N:Nat → Nat),(∀ j,j < 3 → GF.dec (wd w j) = some (U j,N j)) ∧ r.1.len = 174 ∧ r.2.1 = (mxN N 3:Nat) ∧ r.2.2.1 = 0 ∧ Ac m.length r.2.2.2 r.1.a 174 fun j => U (j / 58) (j % 58)) ∨
 (∃ j,j < 3 ∧ GF.dec (wd w j) = none ∧ r.1 = ⟨none,0,0⟩ ∧ r.2.1 = 0 ∧ r.2.2.1 = 5)):=by
 unfold patinaref06_Data
 refine patinaref06_Data_l0_rule k _ _ (fun r x0a x0n x0c x5a x5n x5c x6 x7 M => some ad = x0a ∧ 256 = x0n ∧ ca = x0c ∧ ∃ (i:Nat) (U:Nat → Nat → GF) (N:Nat → Nat),x7 = i ∧ i + r = 3 ∧ i * 58 = x5n ∧ i * 58 = x5c ∧ (mxN N i:Nat) = x6 ∧ RdI m M w i x5a U N) ?_ k 3 _ _ _ _ _ _ _ _ _ (by omega)
  ⟨rfl,rfl,rfl,0,fun _ _ => 0,fun _ => 0,rfl,rfl,rfl,rfl,rfl,⟨Gr.refl _,.nil _ _ _,fun j hj => by omega⟩⟩
 rintro r nx _ _ _ out _ _ _ _ M ⟨rfl,rfl,rfl,i,U,N,rfl,hr,rfl,rfl,rfl,hI⟩ hnx
 unfold patinaref06_Data_l0_b
 by_cases hi:(i:Int) < 3
 ·rw [decide_eq_true hi,cond_true]
  refine .bind (refMessage_ok k hk (hw.grow hI.gr) hs hca (i:=i) (by omega)) ?_
  rintro ⟨_,_,_,m1⟩ ⟨hg,⟨u,n,d,h1,rfl,rfl,rfl,h2,u',h3,h4⟩ | ⟨h1,rfl,rfl,rfl⟩⟩
  ·simp only at hg h3 ⊢
   have n0:((0:Int) != 0) = false:=rfl
   have e4:rdSl m1 (some ⟨d,0,some 1⟩) 58 1 = some (bys 58 u):=(Src.take (sp:=some 1) h3 (l:=58) (by omega)).congr fun i hi => (h4 i (by omega)).symm
   have hA:=hI.out_.keep (m':=m1) fun p o _ ho => hg.get ho
   have hgl:=hg.len
   have hml:=hI.gr.len
   obtain ⟨M3,q1,q2,q3,q4,q5,q6⟩:=hA.app (u:=u) (l:=58) (by omega) (by omega) (by unfold most;omega)
   have dec':∀ j,j < i + 1 → GF.dec (wd w j) = some ((if j = i then u else U j),if j = i then n else N j):=fun j hj => by
    by_cases h5:j = i
    ·subst h5;simp only [↓reduceIte];exact h1
    ·simp only [if_neg h5];exact hI.dec_ j (by omega)
   have mx':mxN (fun j => if j = i then n else N j) (i + 1) = max (mxN N i) n:=by
    have key:∀ l,l ≤ i → mxN (fun j => if j = i then n else N j) l = mxN N l:=by
     intro l
     induction l with
     | zero => intro _;rfl
     | succ l ih => intro h;simp only [mxN,ih (by omega),if_neg (show ¬ l = i by omega)]
    simp only [mxN,key i (Nat.le_refl _),if_true]
   have I':RdI m M3 w (i + 1) (some ⟨m1.length,0,some 1⟩) (fun j => if j = i then u else U j) (fun j => if j = i then n else N j):=by
    refine ⟨q6 m (hI.gr.trans hg) (Nat.le_refl _),?_,dec'⟩
    rw [show (i + 1) * 58 = i * 58 + 58 by omega]
    refine q2.congr fun j hj => ?_
    by_cases h5:j < i * 58
    ·rw [if_pos h5,if_neg (by omega)]
    ·rw [if_neg h5,if_pos (by omega),show j % 58 = j - i * 58 by omega]
   have s58:i * 58 + 58 = (i + 1) * 58:=by omega
   by_cases hgt:(n:Int) > ((mxN N i:Nat):Int)
   ·simp (disch:=omega) only [SX,plus,n0,e4,q1]
    unfold patinaref06_Data_j1
    simp (disch:=omega) only [SX,plus]
    exact hnx (r - 1) _ _ _ _ _ _ _ _ _ (by omega) ⟨rfl,rfl,rfl,i + 1,_,_,by omega,by omega,by omega,by omega,by rw [mx'];omega,I'⟩
   ·simp (disch:=omega) only [SX,plus,n0,e4,q1]
    unfold patinaref06_Data_j1
    simp (disch:=omega) only [SX,plus]
    exact hnx (r - 1) _ _ _ _ _ _ _ _ _ (by omega) ⟨rfl,rfl,rfl,i + 1,_,_,by omega,by omega,by omega,by omega,by rw [mx'];omega,I'⟩
  ·have n5:((5:Int) != 0) = true:=rfl
   simp (disch:=omega) only [SX,plus,n5]
   exact .some ⟨hI.gr.trans hg,.inr ⟨i,by omega,h1,rfl,rfl,rfl⟩⟩
 ·obtain rfl:i = 3:=by omega
  simp (disch:=omega) only [SX,plus]
  exact .some ⟨hI.gr,.inl ⟨U,N,hI.dec_,rfl,rfl,rfl,hI.out_⟩⟩
end
theorem body_no (k:Nat) {m:Mem} {c:Option Addr} {a:Option Addr} {n ca:Nat} (h:n ≠ 256):frame_Frame_Body k c a n ca m = some (⟨none,0,0⟩,0,errC 1,m):=by
 unfold frame_Frame_Body
 rw [message_no k (fun h2 => h h2.1)]
 rfl
theorem data_no (k:Nat) {m:Mem} {c:Nat} {a:Option Addr} {n ca:Nat} (h:n ≠ 256):Ok (frame_Frame_Data k (some ⟨c,0,none⟩) a n ca m) fun r => r.1 = ⟨none,0,0⟩ ∧ r.2.1 = 0 ∧ r.2.2.1 = errC 1 ∧ Gr m r.2.2.2:=by
 unfold frame_Frame_Data
 have e1:(((n:Nat):Int) != 256) = true:=bneI_yes (by omega)
 have l1:(m ++ [MObj.live [Value.pointer (some ⟨c,0,none⟩)]]).length = m.length + 1:=by simp
 have l2:((m ++ [MObj.live [Value.pointer (some ⟨c,0,none⟩)]]) ++ [MObj.live [.slice none 0 0]]).length = m.length + 2:=by simp
 have l3:(((m ++ [MObj.live [Value.pointer (some ⟨c,0,none⟩)]]) ++ [MObj.live [.slice none 0 0]]) ++ [MObj.live [.int .i64 0]]).length = m.length + 3:=by simp
 have g4:=((((Gr.app m [.live [Value.pointer (some ⟨c,0,none⟩)]]).trans (Gr.app _ [.live [.slice none 0 0]])).trans (Gr.app _ [.live [.int .i64 0]])).trans (Gr.app _ [.live [.nilIface]]))
 have x4:((((m ++ [MObj.live [Value.pointer (some ⟨c,0,none⟩)]]) ++ [MObj.live [.slice none 0 0]]) ++ [MObj.live [.int .i64 0]]) ++ [MObj.live [.nilIface]])[m.length + 1]? = some (.live [.slice none 0 0]):=get_grow (get_grow (get_last (by simp)))
 have x5:((((m ++ [MObj.live [Value.pointer (some ⟨c,0,none⟩)]]) ++ [MObj.live [.slice none 0 0]]) ++ [MObj.live [.int .i64 0]]) ++ [MObj.live [.nilIface]])[m.length + 2]? = some (.live [.int .i64 0]):=get_grow (get_last (by simp))
 have x6:((((m ++ [MObj.live [Value.pointer (some ⟨c,0,none⟩)]]) ++ [MObj.live [.slice none 0 0]]) ++ [MObj.live [.int .i64 0]]) ++ [MObj.live [.nilIface]])[m.length + 3]? = some (.live [.nilIface]):=get_last (by simp)
 simp (disch:=omega) only [SX,plus,l1,l2,l3,e1]
 generalize (((m ++ [MObj.live [Value.pointer (some ⟨c,0,none⟩)]]) ++ [MObj.live [.slice none 0 0]]) ++ [MObj.live [.int .i64 0]]) ++ [MObj.live [.nilIface]] = M at *
 have f4:=st_wr (sp:=none) (off:=0) (v:=.slice none 0 0) x4 (by simp)
 have y5:(wr M (m.length + 1) (([.slice none 0 0]:List Value).set 0 (.slice none 0 0)))[m.length + 2]? = some (.live [.int .i64 0]):=by rw [wr_ne (by omega)];exact x5
 have f5:=st_wr (sp:=none) (off:=0) (v:=.int .i64 0) y5 (by simp)
 have y6:(wr (wr M (m.length + 1) (([.slice none 0 0]:List Value).set 0 (.slice none 0 0))) (m.length + 2) (([.int .i64 0]:List Value).set 0 (.int .i64 0)))[m.length + 3]? = some (.live [.nilIface]):=by rw [wr_ne (by omega),wr_ne (by omega)];exact x6
 have f6:=st_wr (sp:=none) (off:=0) (v:=errC 1) y6 (by simp)
 rw [errC_pos (by omega)] at f6
 have g1:=ldSl_of (m:=wr (wr (wr M (m.length + 1) (([.slice none 0 0]:List Value).set 0 (.slice none 0 0))) (m.length + 2) (([.int .i64 0]:List Value).set 0 (.int .i64 0))) (m.length + 3) (([.nilIface]:List Value).set 0 (.iface ty_api_Code (.int .i64 1)))) (b:=m.length + 1) (off:=0) (sp:=none) (cs:=[.slice none 0 0]) (by rw [wr_ne (by omega),wr_ne (by omega)];exact wr_get x4) rfl
 have g2:=ldInt_of (m:=wr (wr (wr M (m.length + 1) (([.slice none 0 0]:List Value).set 0 (.slice none 0 0))) (m.length + 2) (([.int .i64 0]:List Value).set 0 (.int .i64 0))) (m.length + 3) (([.nilIface]:List Value).set 0 (.iface ty_api_Code (.int .i64 1)))) (b:=m.length + 2) (off:=0) (sp:=none) (cs:=[.int .i64 0]) (by rw [wr_ne (by omega)];exact wr_get y5) rfl
 have g3:=ldVal_of (m:=wr (wr (wr M (m.length + 1) (([.slice none 0 0]:List Value).set 0 (.slice none 0 0))) (m.length + 2) (([.int .i64 0]:List Value).set 0 (.int .i64 0))) (m.length + 3) (([.nilIface]:List Value).set 0 (.iface ty_api_Code (.int .i64 1)))) (b:=m.length + 3) (off:=0) (sp:=none) (cs:=[.iface ty_api_Code (.int .i64 1)]) (wr_get y6) rfl
 simp (disch:=omega) only [SX,plus,f4,f5,f6,g1,g2,g3]
 exact .some ⟨rfl,rfl,by rw [errC_pos (by omega)],((g4.wr (by omega) _).wr (by omega) _).wr (by omega) _⟩
end Go.Proofs.YtchonnaoojpdoaaGreat
set_option linter.unusedVariables false
set_option linter.unusedSectionVars false
set_option linter.unusedSimpArgs false
namespace Go.Proofs.YtchonnaoojpdoaaGreat
open Go.Mx
structure Told where
 n:Nat
 w:Nat → GF
 a:Nat
 e:Int
def Told.no (e:Int):Told:=⟨0,fun _ => 0,0,e⟩
open Classical in
noncomputable def msgS (n:Nat) (w:Nat → GF) (p:Int):Told:=if n = 256 ∧ 0 ≤ p ∧ p ≤ 3 then (match GF.dec (wd w p.toNat) with | some (u,a) => ⟨58,u,a,0⟩ | none => .no 5) else .no 1
noncomputable def dW (w:Nat → GF) (j:Nat):Nat → GF:=match GF.dec (wd w j) with | some (u,_) => u | none => fun _ => 0
noncomputable def dN (w:Nat → GF) (j:Nat):Nat:=match GF.dec (wd w j) with | some (_,n) => n | none => 0
def dIs (w:Nat → GF) (j:Nat):Prop:=GF.dec (wd w j) ≠ none
open Classical in
noncomputable def dataS (n:Nat) (w:Nat → GF):Told:=if n = 256 then (if dIs w 0 ∧ dIs w 1 ∧ dIs w 2 then ⟨174,fun j => dW w (j / 58) (j % 58),mxN (dN w) 3,0⟩ else .no 5) else .no 1
open Classical in
noncomputable def bodyS (n:Nat) (w:Nat → GF):Told:=if n = 256 then (match GF.dec (wd w 3) with | some (u,a) => if marked u then ⟨50,u,a,0⟩ else .no 6 | none => .no 5) else .no 1
theorem dataS_len {n:Nat} {w:Nat → GF}:(dataS n w).n < 1000:=by
 unfold dataS;split
 ·split <;> simp [Told.no]
 ·simp [Told.no]
def FOut (m m':Mem) (s:Sl) (a:Int) (e:Value) (t:Told):Prop:=∃ R L,s = ⟨rowA R,t.n,t.n⟩ ∧ RowLive m' R t.n L (fun u => ∀ i,i < t.n → u i = t.w i) ∧ (∀ D,rowD R = some D → m.length ≤ D) ∧ a = (t.a:Int) ∧ e = errC t.e ∧ Gr m m'
def ROut (m m':Mem) (s:Sl) (a:Int) (e:Int) (t:Told):Prop:=s.len = t.n ∧ Src m' s.a t.n t.w ∧ a = (t.a:Int) ∧ e = t.e ∧ Gr m m'
theorem FOut.no {m m':Mem} {e:Int} (h:Gr m m'):FOut m m' ⟨none,0,0⟩ 0 (errC e) (.no e):=⟨none,0,rfl,rfl,(fun D h => nomatch h),rfl,rfl,h⟩
theorem ROut.no {m m':Mem} {e:Int} (h:Gr m m'):ROut m m' ⟨none,0,0⟩ 0 e (.no e):=⟨rfl,rfl,rfl,rfl,h⟩
section
variable (k:Nat) (hk:1000 < k) {m:Mem} {a:Option Addr} {n ca:Nat} {w:Nat → GF} (hw:Src m a n w) (hs:n = 256 → ∃ ad,a = some ad ∧ okS ad) (hca:n ≤ ca)
include hk hw hs hca
theorem msgR (p:Int):Ok (patinaref06_Message k a n ca p m) fun r => ROut m r.2.2.2 r.1 r.2.1 r.2.2.1 (msgS n w p):=by
 by_cases h:n = 256 ∧ 0 ≤ p ∧ p ≤ 3
 ·obtain ⟨rfl,h1,h2⟩:=h
  obtain ⟨ad,rfl,hsa⟩:=hs rfl
  obtain ⟨i,rfl⟩:=Int.eq_ofNat_of_zero_le h1
  refine (refMessage_ok k hk hw hsa hca (i:=i) (by omega)).mono ?_
  rintro ⟨_,_,_,m1⟩ ⟨hg,⟨u,a,d,h1,rfl,rfl,rfl,h2,u',h3,h4⟩ | ⟨h1,rfl,rfl,rfl⟩⟩
  ·unfold msgS
   simp only [Int.toNat_natCast,h1,and_self,if_true,Int.natCast_nonneg,show (i:Int) ≤ 3 by omega]
   exact ⟨rfl,(Src.take (sp:=some 1) h3 (l:=58) (by omega)).congr fun i hi => (h4 i (by omega)).symm,rfl,rfl,hg⟩
  ·unfold msgS
   simp only [Int.toNat_natCast,h1,and_self,if_true,Int.natCast_nonneg,show (i:Int) ≤ 3 by omega]
   exact .no hg
 ·rw [refMessage_no k h]
  unfold msgS
  rw [if_neg h]
  exact .some (.no (Gr.refl _))
variable {c:Nat} (hC:Frm m c)
include hC
theorem msgF (p:Int):Ok (frame_Frame_Message k (some ⟨c,0,none⟩) a n ca p m) fun r => FOut m r.2.2.2 r.1 r.2.1 r.2.2.1 (msgS n w p):=by
 by_cases h:n = 256 ∧ 0 ≤ p ∧ p ≤ 3
 ·obtain ⟨rfl,h1,h2⟩:=h
  obtain ⟨ad,rfl,hsa⟩:=hs rfl
  obtain ⟨i,rfl⟩:=Int.eq_ofNat_of_zero_le h1
  refine (message_ok' k hk hC hw hsa hca (i:=i) (by omega)).mono ?_
  rintro ⟨_,_,_,m1⟩ ⟨hg,⟨u,a,d,h1,rfl,rfl,rfl,h2,h3⟩ | ⟨h1,rfl,rfl,rfl⟩⟩
  ·unfold msgS
   simp only [Int.toNat_natCast,h1,and_self,if_true,Int.natCast_nonneg,show (i:Int) ≤ 3 by omega]
   exact ⟨some (d,false),64,rfl,⟨u,h3,fun i _ => rfl,by simp,fun h => nomatch h⟩,(fun D h => by cases h;exact h2),rfl,rfl,hg⟩
  ·unfold msgS
   simp only [Int.toNat_natCast,h1,and_self,if_true,Int.natCast_nonneg,show (i:Int) ≤ 3 by omega]
   exact .no hg
 ·rw [message_no k h]
  unfold msgS
  rw [if_neg h]
  exact .some (.no (Gr.refl _))
theorem dataF:Ok (frame_Frame_Data k (some ⟨c,0,none⟩) a n ca m) fun r => FOut m r.2.2.2 r.1 r.2.1 r.2.2.1 (dataS n w):=by
 by_cases h:n = 256
 ·subst h
  obtain ⟨ad,rfl,hsa⟩:=hs rfl
  refine (data_ok k hk hC hw hsa hca).mono ?_
  rintro ⟨_,_,_,m1⟩ ⟨hg,⟨U,N,q,hd,rfl,rfl,rfl,h3,h4⟩ | ⟨j,hj,h1,rfl,rfl,rfl⟩⟩
  ·have hU:∀ j,j < 3 → dW w j = U j ∧ dN w j = N j ∧ dIs w j:=fun j hj => by
    unfold dW dN dIs;rw [hd j hj];exact ⟨rfl,rfl,by simp⟩
   unfold dataS
   rw [if_pos rfl,if_pos ⟨(hU 0 (by omega)).2.2,(hU 1 (by omega)).2.2,(hU 2 (by omega)).2.2⟩]
   refine ⟨some (q,true),174,rfl,⟨_,h4,fun i hi => ?_,Nat.le_refl _,fun _ => rfl⟩,(fun D h => by cases h;exact h3),?_,rfl,hg⟩
   ·have hi:i < 174:=hi
    show _ = dW w (i / 58) (i % 58)
    rw [(hU (i / 58) (by omega)).1]
   ·simp only [mxN,(hU 0 (by omega)).2.1,(hU 1 (by omega)).2.1,(hU 2 (by omega)).2.1]
  ·unfold dataS
   rw [if_pos rfl,if_neg ?_]
   ·exact .no hg
   ·rintro ⟨a,b,c⟩
    have:j = 0 ∨ j = 1 ∨ j = 2:=by omega
    rcases this with rfl | rfl | rfl
    ·exact a h1
    ·exact b h1
    ·exact c h1
 ·refine (data_no k h).mono ?_
  rintro ⟨_,_,_,m1⟩ ⟨rfl,rfl,rfl,hg⟩
  unfold dataS
  rw [if_neg h]
  exact .no hg
theorem bodyF:Ok (frame_Frame_Body k (some ⟨c,0,none⟩) a n ca m) fun r => FOut m r.2.2.2 r.1 r.2.1 r.2.2.1 (bodyS n w):=by
 by_cases h:n = 256
 ·subst h
  obtain ⟨ad,rfl,hsa⟩:=hs rfl
  refine (body_ok k hk hC hw hsa hca).mono ?_
  rintro ⟨_,_,_,m1⟩ ⟨hg,⟨u,a,d,h1,hm,rfl,rfl,rfl,h2,h3⟩ | ⟨u,a,h1,hm,rfl,rfl,rfl⟩ | ⟨h1,rfl,rfl,rfl⟩⟩
  ·unfold bodyS
   simp only [if_true,h1,if_pos hm]
   exact ⟨some (d,false),58,rfl,⟨u,h3,fun i _ => rfl,by simp,fun h => nomatch h⟩,(fun D h => by cases h;exact h2),rfl,rfl,hg⟩
  ·unfold bodyS
   simp only [if_true,h1,if_neg hm]
   exact .no hg
  ·unfold bodyS
   simp only [if_true,h1]
   exact .no hg
 ·rw [body_no k h]
  unfold bodyS
  rw [if_neg h]
  exact .some (.no (Gr.refl _))
end
end Go.Proofs.YtchonnaoojpdoaaGreat
set_option linter.unusedVariables false
set_option linter.unusedSimpArgs false
namespace Go.Proofs.YtchonnaoojpdoaaGreat
open Go.Mx
theorem code_is (k:Nat) (c:Int) (m:Mem) (hc:0 ≤ c ∧ c < 20):patinalaw00_Code k (errC c) m = some (c,m):=by
 have h:c = 0 ∨ c = 1 ∨ c = 2 ∨ c = 3 ∨ c = 4 ∨ c = 5 ∨ c = 6 ∨ c = 7 ∨ c = 8 ∨ c = 9 ∨ c = 10 ∨ c = 11 ∨ c = 12 ∨ c = 13 ∨ c = 14 ∨ c = 15 ∨ c = 16 ∨ c = 17 ∨ c = 18 ∨ c = 19:=by omega
 rcases h with rfl | rfl | rfl | rfl | rfl | rfl | rfl | rfl | rfl | rfl | rfl | rfl | rfl | rfl | rfl | rfl | rfl | rfl | rfl | rfl <;> rfl
end Go.Proofs.YtchonnaoojpdoaaGreat
set_option linter.unusedVariables false
set_option linter.unusedSectionVars false
set_option linter.unusedSimpArgs false
namespace Go.Proofs.YtchonnaoojpdoaaGreat
open Go.Mx
structure ChunkS where
 now:Int → Int
 tru:Int → Int
 is:Bool
 worst:Int
structure BlockS where
 ch:Int → ChunkS
 reads:Int
 failed:Bool
 before:Int
 atErase:Bool
structure ChipS where
 b:Int → BlockS
 off:Bool
 cut:Bool
 budget:Int
 steps:Int
def chunkC (c:ChunkS):List Value:=arr .u8 64 c.now ++ (arr .u8 64 c.tru ++ [.bool c.is,.int .i64 c.worst])
def blockC (β:BlockS):List Value:=farr 32 (fun j => chunkC (β.ch j)) ++ [.int .i64 β.reads,.bool β.failed,.int .i64 β.before,.bool β.atErase]
def chipC (σ:ChipS):List Value:=farr 12 (fun i => blockC (σ.b i)) ++ [.bool σ.off,.bool σ.cut,.int .i64 σ.budget,.int .i64 σ.steps]
def ChipS.updB (σ:ChipS) (x:Int) (β:BlockS):ChipS:={ σ with b:=upd σ.b x β }
def BlockS.updC (β:BlockS) (j:Int) (c:ChunkS):BlockS:={ β with ch:=upd β.ch j c }
def ChipS.at_ (σ:ChipS) (p k:Int):ChunkS:=(σ.b (p / 8)).ch (p % 8 * 4 + k)
def ChipS.put (σ:ChipS) (p k:Int) (c:ChunkS):ChipS:=σ.updB (p / 8) ((σ.b (p / 8)).updC (p % 8 * 4 + k) c)
def chA (p k:Int):Nat:=(p / 8).toNat * 4164 + (p % 8).toNat * 520 + k.toNat * 130
theorem chunkC_len (c:ChunkS):(chunkC c).length = 130:=by simp [chunkC]
theorem chunks_len (β:BlockS):(farr 32 (fun j => chunkC (β.ch j))).length = 4160:=farr_len (z:=130) fun _ _ _ => chunkC_len _
theorem blockC_len (β:BlockS):(blockC β).length = 4164:=by unfold blockC;rw [List.length_append,chunks_len];rfl
theorem blocks_len (σ:ChipS):(farr 12 (fun i => blockC (σ.b i))).length = 49968:=farr_len (z:=4164) fun _ _ _ => blockC_len _
theorem chipC_len (σ:ChipS):(chipC σ).length = 49972:=by unfold chipC;rw [List.length_append,blocks_len];rfl
theorem upd_map {α β:Type} (f:Int → α) (g:α → β) (x:Int) (v:α):(fun i => g (upd f x v i)) = upd (fun i => g (f i)) x (g v):=by
 funext i;unfold upd;split <;> rfl
section
variable {β:BlockS} {j:Nat} (hj:j < 32)
include hj
theorem block_cell {y:Nat} (hy:y < 130):(blockC β)[j * 130 + y]? = (chunkC (β.ch j))[y]?:=by
 unfold blockC
 rw [List.getElem?_append_left (by rw [chunks_len];omega)]
 exact farr_get (f:=fun j => chunkC (β.ch j)) (fun _ _ _ => chunkC_len _) hj hy
theorem block_set {y:Nat} (hy:y < 130) {v:Value} {c:ChunkS} (h:(chunkC (β.ch j)).set y v = chunkC c):(blockC β).set (j * 130 + y) v = blockC (β.updC j c):=by
 unfold blockC
 rw [List.set_append_left _ _ (by rw [chunks_len];omega),farr_set (f:=fun j => chunkC (β.ch j)) (fun _ _ _ => chunkC_len _) hj hy]
 simp only [BlockS.updC,upd_map,h]
theorem block_sub {o l:Nat} (hl:o + l ≤ 130):((blockC β).drop (j * 130 + o)).take l = ((chunkC (β.ch j)).drop o).take l:=by
 unfold blockC
 rw [List.drop_append_of_le_length (by rw [chunks_len];omega),List.take_append_of_le_length (by rw [List.length_drop,chunks_len];omega)]
 exact farr_sub (f:=fun j => chunkC (β.ch j)) (fun _ _ _ => chunkC_len _) hj hl
theorem block_put {o:Nat} {vs:List Value} (hl:o + vs.length ≤ 130) {c:ChunkS} (h:(chunkC (β.ch j)).take o ++ vs ++ (chunkC (β.ch j)).drop (o + vs.length) = chunkC c) :
 (blockC β).take (j * 130 + o) ++ vs ++ (blockC β).drop (j * 130 + o + vs.length) = blockC (β.updC j c):=by
 unfold blockC
 rw [List.take_append_of_le_length (by rw [chunks_len];omega),List.drop_append_of_le_length (by rw [chunks_len];omega),← List.append_assoc,
  farr_put (f:=fun j => chunkC (β.ch j)) (fun _ _ _ => chunkC_len _) hj hl]
 simp only [BlockS.updC,upd_map,h]
end
section
variable {σ:ChipS} {x:Int} (h0:0 ≤ x) (h1:x < 12)
include h0 h1
theorem chip_bcell {y:Nat} (hy:y < 4164):(chipC σ)[x.toNat * 4164 + y]? = (blockC (σ.b x))[y]?:=by
 unfold chipC
 rw [List.getElem?_append_left (by rw [blocks_len];omega)]
 have:=farr_get (f:=fun j => blockC (σ.b j)) (n:=12) (i:=x.toNat) (fun _ _ _ => blockC_len _) (by omega) hy
 rw [show ((x.toNat:Nat):Int) = x by omega] at this
 exact this
theorem chip_bset {y:Nat} (hy:y < 4164) {v:Value} {β:BlockS} (h:(blockC (σ.b x)).set y v = blockC β):(chipC σ).set (x.toNat * 4164 + y) v = chipC (σ.updB x β):=by
 unfold chipC
 have:=farr_set (f:=fun j => blockC (σ.b j)) (n:=12) (i:=x.toNat) (fun _ _ _ => blockC_len _) (by omega) hy v
 rw [show ((x.toNat:Nat):Int) = x by omega] at this
 rw [List.set_append_left _ _ (by rw [blocks_len];omega),this]
 simp only [ChipS.updB,upd_map,h]
theorem chip_bsub {o l:Nat} (hl:o + l ≤ 4164):((chipC σ).drop (x.toNat * 4164 + o)).take l = ((blockC (σ.b x)).drop o).take l:=by
 unfold chipC
 rw [List.drop_append_of_le_length (by rw [blocks_len];omega),List.take_append_of_le_length (by rw [List.length_drop,blocks_len];omega)]
 have:=farr_sub (f:=fun j => blockC (σ.b j)) (n:=12) (i:=x.toNat) (fun _ _ _ => blockC_len _) (by omega) hl
 rw [show ((x.toNat:Nat):Int) = x by omega] at this
 exact this
theorem chip_bput {o:Nat} {vs:List Value} (hl:o + vs.length ≤ 4164) {β:BlockS} (h:(blockC (σ.b x)).take o ++ vs ++ (blockC (σ.b x)).drop (o + vs.length) = blockC β) :
 (chipC σ).take (x.toNat * 4164 + o) ++ vs ++ (chipC σ).drop (x.toNat * 4164 + o + vs.length) = chipC (σ.updB x β):=by
 unfold chipC
 have:=farr_put (f:=fun j => blockC (σ.b j)) (n:=12) (i:=x.toNat) (fun _ _ _ => blockC_len _) (by omega) hl
 rw [show ((x.toNat:Nat):Int) = x by omega] at this
 rw [List.take_append_of_le_length (by rw [blocks_len];omega),List.drop_append_of_le_length (by rw [blocks_len];omega),← List.append_assoc,this]
 simp only [ChipS.updB,upd_map,h]
end
def isAt (p k:Int):Prop:=0 ≤ p ∧ p < 96 ∧ 0 ≤ k ∧ k < 4
section
variable {σ:ChipS} {p k:Int} (hp:isAt p k)
include hp
theorem chA_eq (y:Nat):chA p k + y = (p / 8).toNat * 4164 + ((p % 8 * 4 + k).toNat * 130 + y):=by
 obtain ⟨h0,h1,h2,h3⟩:=hp
 unfold chA;omega
theorem chip_cell {y:Nat} (hy:y < 130):(chipC σ)[chA p k + y]? = (chunkC (σ.at_ p k))[y]?:=by
 have ⟨h0,h1,h2,h3⟩:=hp
 rw [chA_eq hp,chip_bcell (by omega) (by omega) (by omega),block_cell (by omega) hy]
 unfold ChipS.at_
 rw [show (((p % 8 * 4 + k).toNat:Nat):Int) = p % 8 * 4 + k by omega]
theorem chip_set {y:Nat} (hy:y < 130) {v:Value} {c:ChunkS} (h:(chunkC (σ.at_ p k)).set y v = chunkC c):(chipC σ).set (chA p k + y) v = chipC (σ.put p k c):=by
 have ⟨h0,h1,h2,h3⟩:=hp
 rw [chA_eq hp]
 refine chip_bset (by omega) (by omega) (by omega) ?_
 have:=block_set (β:=σ.b (p / 8)) (j:=(p % 8 * 4 + k).toNat) (by omega) hy (v:=v) (c:=c)
 rw [show (((p % 8 * 4 + k).toNat:Nat):Int) = p % 8 * 4 + k by omega] at this
 exact this h
theorem chip_sub {o l:Nat} (hl:o + l ≤ 130):((chipC σ).drop (chA p k + o)).take l = ((chunkC (σ.at_ p k)).drop o).take l:=by
 have ⟨h0,h1,h2,h3⟩:=hp
 rw [chA_eq hp,chip_bsub (by omega) (by omega) (by omega),block_sub (by omega) hl]
 unfold ChipS.at_
 rw [show (((p % 8 * 4 + k).toNat:Nat):Int) = p % 8 * 4 + k by omega]
theorem chip_put {o:Nat} {vs:List Value} (hl:o + vs.length ≤ 130) {c:ChunkS} (h:(chunkC (σ.at_ p k)).take o ++ vs ++ (chunkC (σ.at_ p k)).drop (o + vs.length) = chunkC c) :
 (chipC σ).take (chA p k + o) ++ vs ++ (chipC σ).drop (chA p k + o + vs.length) = chipC (σ.put p k c):=by
 have ⟨h0,h1,h2,h3⟩:=hp
 rw [chA_eq hp]
 refine chip_bput (by omega) (by omega) (by omega) ?_
 have:=block_put (β:=σ.b (p / 8)) (j:=(p % 8 * 4 + k).toNat) (by omega) hl (c:=c)
 rw [show (((p % 8 * 4 + k).toNat:Nat):Int) = p % 8 * 4 + k by omega] at this
 exact this h
end
theorem chip_off (σ:ChipS):(chipC σ)[49968]? = some (.bool σ.off):=by unfold chipC;rw [List.getElem?_append_right (by rw [blocks_len];omega),blocks_len];rfl
theorem chip_cut (σ:ChipS):(chipC σ)[49969]? = some (.bool σ.cut):=by unfold chipC;rw [List.getElem?_append_right (by rw [blocks_len];omega),blocks_len];rfl
theorem chip_budget (σ:ChipS):(chipC σ)[49970]? = some (.int .i64 σ.budget):=by unfold chipC;rw [List.getElem?_append_right (by rw [blocks_len];omega),blocks_len];rfl
theorem chip_steps (σ:ChipS):(chipC σ)[49971]? = some (.int .i64 σ.steps):=by unfold chipC;rw [List.getElem?_append_right (by rw [blocks_len];omega),blocks_len];rfl
theorem chip_setoff (σ:ChipS) (v:Bool):(chipC σ).set 49968 (.bool v) = chipC { σ with off:=v }:=by unfold chipC;rw [List.set_append_right _ _ (by rw [blocks_len];omega),blocks_len];rfl
theorem chip_setcut (σ:ChipS) (v:Bool):(chipC σ).set 49969 (.bool v) = chipC { σ with cut:=v }:=by unfold chipC;rw [List.set_append_right _ _ (by rw [blocks_len];omega),blocks_len];rfl
theorem chip_setbudget (σ:ChipS) (v:Int):(chipC σ).set 49970 (.int .i64 v) = chipC { σ with budget:=v }:=by unfold chipC;rw [List.set_append_right _ _ (by rw [blocks_len];omega),blocks_len];rfl
theorem chip_setsteps (σ:ChipS) (v:Int):(chipC σ).set 49971 (.int .i64 v) = chipC { σ with steps:=v }:=by unfold chipC;rw [List.set_append_right _ _ (by rw [blocks_len];omega),blocks_len];rfl
theorem block_at (β:BlockS) (q:Nat):(blockC β)[4160 + q]? = [Value.int .i64 β.reads,.bool β.failed,.int .i64 β.before,.bool β.atErase][q]?:=by
 unfold blockC;rw [List.getElem?_append_right (by rw [chunks_len];omega),chunks_len,Nat.add_sub_cancel_left]
theorem block_setat (β:BlockS) (q:Nat) (v:Value):(blockC β).set (4160 + q) v = farr 32 (fun j => chunkC (β.ch j)) ++ [Value.int .i64 β.reads,.bool β.failed,.int .i64 β.before,.bool β.atErase].set q v:=by
 unfold blockC;rw [List.set_append_right _ _ (by rw [chunks_len];omega),chunks_len,Nat.add_sub_cancel_left]
section
variable {m:Mem} {c:Nat} {σ:ChipS} (h:m[c]? = some (.live (chipC σ)))
include h
theorem chip_ldOff:ldBool m ⟨c,49968,none⟩ = some σ.off:=ldBool_of h (chip_off σ)
theorem chip_ldCut:ldBool m ⟨c,49969,none⟩ = some σ.cut:=ldBool_of h (chip_cut σ)
theorem chip_ldBudget:ldInt .i64 m ⟨c,49970,none⟩ = some σ.budget:=ldInt_of h (chip_budget σ)
theorem chip_ldSteps:ldInt .i64 m ⟨c,49971,none⟩ = some σ.steps:=ldInt_of h (chip_steps σ)
theorem chip_stOff (v:Bool):st m ⟨c,49968,none⟩ (.bool v) = some (wr m c (chipC { σ with off:=v })):=by rw [st_wr h (by rw [chipC_len];omega),chip_setoff]
theorem chip_stCut (v:Bool):st m ⟨c,49969,none⟩ (.bool v) = some (wr m c (chipC { σ with cut:=v })):=by rw [st_wr h (by rw [chipC_len];omega),chip_setcut]
theorem chip_stBudget (v:Int):st m ⟨c,49970,none⟩ (.int .i64 v) = some (wr m c (chipC { σ with budget:=v })):=by rw [st_wr h (by rw [chipC_len];omega),chip_setbudget]
theorem chip_stSteps (v:Int):st m ⟨c,49971,none⟩ (.int .i64 v) = some (wr m c (chipC { σ with steps:=v })):=by rw [st_wr h (by rw [chipC_len];omega),chip_setsteps]
section
variable {x:Int} (h0:0 ≤ x) (h1:x < 12)
include h0 h1
theorem chip_ldReads:ldInt .i64 m ⟨c,x.toNat * 4164 + 4160,none⟩ = some (σ.b x).reads:=ldInt_of h (by rw [chip_bcell h0 h1 (by omega),block_at _ 0];rfl)
theorem chip_ldFailed:ldBool m ⟨c,x.toNat * 4164 + 4161,none⟩ = some (σ.b x).failed:=ldBool_of h (by rw [chip_bcell h0 h1 (by omega),block_at _ 1];rfl)
theorem chip_ldBefore:ldInt .i64 m ⟨c,x.toNat * 4164 + 4162,none⟩ = some (σ.b x).before:=ldInt_of h (by rw [chip_bcell h0 h1 (by omega),block_at _ 2];rfl)
theorem chip_ldAtErase:ldBool m ⟨c,x.toNat * 4164 + 4163,none⟩ = some (σ.b x).atErase:=ldBool_of h (by rw [chip_bcell h0 h1 (by omega),block_at _ 3];rfl)
theorem chip_stReads (v:Int):st m ⟨c,x.toNat * 4164 + 4160,none⟩ (.int .i64 v) = some (wr m c (chipC (σ.updB x { σ.b x with reads:=v }))):=by
 rw [st_wr h (by rw [chipC_len];omega),chip_bset (β:={ σ.b x with reads:=v }) h0 h1 (by omega) (by rw [block_setat _ 0];simp [blockC])]
theorem chip_stFailed (v:Bool):st m ⟨c,x.toNat * 4164 + 4161,none⟩ (.bool v) = some (wr m c (chipC (σ.updB x { σ.b x with failed:=v }))):=by
 rw [st_wr h (by rw [chipC_len];omega),chip_bset (β:={ σ.b x with failed:=v }) h0 h1 (by omega) (by rw [block_setat _ 1];simp [blockC])]
theorem chip_stBefore (v:Int):st m ⟨c,x.toNat * 4164 + 4162,none⟩ (.int .i64 v) = some (wr m c (chipC (σ.updB x { σ.b x with before:=v }))):=by
 rw [st_wr h (by rw [chipC_len];omega),chip_bset (β:={ σ.b x with before:=v }) h0 h1 (by omega) (by rw [block_setat _ 2];simp [blockC])]
theorem chip_stAtErase (v:Bool):st m ⟨c,x.toNat * 4164 + 4163,none⟩ (.bool v) = some (wr m c (chipC (σ.updB x { σ.b x with atErase:=v }))):=by
 rw [st_wr h (by rw [chipC_len];omega),chip_bset (β:={ σ.b x with atErase:=v }) h0 h1 (by omega) (by rw [block_setat _ 3];simp [blockC])]
end
section
variable {p k:Int} (hp:isAt p k)
include hp
omit h in
theorem chA_lt:chA p k + 130 ≤ 49968:=by
 obtain ⟨h0,h1,h2,h3⟩:=hp
 unfold chA;omega
theorem chip_ldNow {i:Int} (h0:0 ≤ i) (h1:i < 64):ldInt .u8 m ⟨c,chA p k + i.toNat,none⟩ = some ((σ.at_ p k).now i):=ldInt_of h (by
 rw [chip_cell hp (by omega)];unfold chunkC;rw [List.getElem?_append_left (by simp;omega)];exact arr_getI h0 (by omega))
theorem chip_ldTru {i:Int} (h0:0 ≤ i) (h1:i < 64):ldInt .u8 m ⟨c,chA p k + 64 + i.toNat,none⟩ = some ((σ.at_ p k).tru i):=ldInt_of h (by
 rw [Nat.add_assoc,chip_cell hp (by omega)];unfold chunkC
 rw [List.getElem?_append_right (by simp),arr_length,Nat.add_sub_cancel_left,List.getElem?_append_left (by simp;omega)];exact arr_getI h0 (by omega))
theorem chip_ldIs:ldBool m ⟨c,chA p k + 128,none⟩ = some (σ.at_ p k).is:=ldBool_of h (by
 rw [chip_cell hp (by omega)];unfold chunkC;rw [List.getElem?_append_right (by simp),List.getElem?_append_right (by simp)];simp)
theorem chip_ldWorst:ldInt .i64 m ⟨c,chA p k + 129,none⟩ = some (σ.at_ p k).worst:=ldInt_of h (by
 rw [chip_cell hp (by omega)];unfold chunkC;rw [List.getElem?_append_right (by simp),List.getElem?_append_right (by simp)];simp)
theorem chip_stNow {i:Int} (h0:0 ≤ i) (h1:i < 64) (v:Int):st m ⟨c,chA p k + i.toNat,none⟩ (.int .u8 v) = some (wr m c (chipC (σ.put p k { σ.at_ p k with now:=upd (σ.at_ p k).now i v }))):=by
 have:=chA_lt hp
 rw [st_wr h (by rw [chipC_len];omega),chip_set hp (by omega)]
 unfold chunkC;rw [List.set_append_left _ _ (by simp;omega),arr_set h0]
theorem chip_stIs (v:Bool):st m ⟨c,chA p k + 128,none⟩ (.bool v) = some (wr m c (chipC (σ.put p k { σ.at_ p k with is:=v }))):=by
 have:=chA_lt hp
 rw [st_wr h (by rw [chipC_len];omega),chip_set hp (by omega)]
 unfold chunkC;rw [List.set_append_right _ _ (by simp),List.set_append_right _ _ (by simp)];simp
theorem chip_stWorst (v:Int):st m ⟨c,chA p k + 129,none⟩ (.int .i64 v) = some (wr m c (chipC (σ.put p k { σ.at_ p k with worst:=v }))):=by
 have:=chA_lt hp
 rw [st_wr h (by rw [chipC_len];omega),chip_set hp (by omega)]
 unfold chunkC;rw [List.set_append_right _ _ (by simp),List.set_append_right _ _ (by simp)];simp
theorem chip_cellsNow:ldCells m ⟨c,chA p k,none⟩ 64 = some (arr .u8 64 (σ.at_ p k).now):=by
 have:=chA_lt hp
 have e:=chip_sub (σ:=σ) hp (o:=0) (l:=64) (by omega)
 rw [Nat.add_zero,List.drop_zero] at e
 rw [ldCells_of h (by rw [chipC_len];omega),e]
 unfold chunkC;exact congrArg some arr_take
theorem chip_stCellsNow (f:Int → Int):stCells m ⟨c,chA p k,none⟩ (arr .u8 64 f) = some (wr m c (chipC (σ.put p k { σ.at_ p k with now:=f }))):=by
 have:=chA_lt hp
 rw [stCells_wr h (by rw [chipC_len,arr_length];omega)]
 have e:=chip_put (σ:=σ) hp (o:=0) (vs:=arr .u8 64 f) (by simp) (c:={ σ.at_ p k with now:=f }) (by
  unfold chunkC;rw [List.take_zero,List.nil_append,Nat.zero_add,arr_length,List.drop_left' (by simp)])
 rw [Nat.add_zero] at e
 rw [e]
theorem chip_stCellsTru (f:Int → Int):stCells m ⟨c,chA p k + 64,none⟩ (arr .u8 64 f) = some (wr m c (chipC (σ.put p k { σ.at_ p k with tru:=f }))):=by
 have:=chA_lt hp
 rw [stCells_wr h (by rw [chipC_len,arr_length];omega)]
 rw [chip_put (σ:=σ) hp (o:=64) (vs:=arr .u8 64 f) (by simp) (c:={ σ.at_ p k with tru:=f }) (by
  unfold chunkC;rw [List.take_left' (by simp),arr_length,List.append_assoc]
  congr 2)]
end
end
end Go.Proofs.YtchonnaoojpdoaaGreat
set_option linter.unusedVariables false
set_option linter.unusedSectionVars false
set_option linter.unusedSimpArgs false
namespace Go.Proofs.YtchonnaoojpdoaaGreat
open Go.Mx
instance (p k:Int):Decidable (isAt p k):=by unfold isAt;infer_instance
theorem updB_self (σ:ChipS) (x:Int):σ.updB x (σ.b x) = σ:=by cases σ;simp [ChipS.updB,upd_self]
theorem updB_updB (σ:ChipS) (x:Int) (β γ:BlockS):(σ.updB x β).updB x γ = σ.updB x γ:=by simp [ChipS.updB,upd_upd]
theorem updB_b (σ:ChipS) (x:Int) (β:BlockS):(σ.updB x β).b x = β:=by simp [ChipS.updB]
theorem put_at (σ:ChipS) (p k:Int) (c:ChunkS):(σ.put p k c).at_ p k = c:=by simp [ChipS.put,ChipS.at_,ChipS.updB,BlockS.updC]
theorem put_put (σ:ChipS) (p k:Int) (c d:ChunkS):(σ.put p k c).put p k d = σ.put p k d:=by simp [ChipS.put,ChipS.updB,BlockS.updC,upd_upd]
def cntNe (f g:Int → Int):Nat → Int
 | 0 => 0
 | n + 1 => cntNe f g n + if f n ≠ g n then 1 else 0
theorem cntNe_succ (f g:Int → Int) (n:Nat):cntNe f g (n + 1) = cntNe f g n + if f n ≠ g n then 1 else 0:=rfl
theorem cntNe_le (f g:Int → Int) (n:Nat):0 ≤ cntNe f g n ∧ cntNe f g n ≤ n:=by
 induction n with
 | zero => simp [cntNe]
 | succ n ih => rw [cntNe_succ];split <;> omega
def ChunkS.damage (c:ChunkS):Int:=cntNe c.now c.tru 64
def ChipS.step (σ:ChipS):Int × ChipS :=
 if σ.cut = true then (if σ.budget = 0 then (7,{ σ with off:=true }) else (0,{ σ with budget:=σ.budget - 1,steps:=σ.steps + 1 })) else (0,{ σ with steps:=σ.steps + 1 })
def BlockS.worn (β:BlockS):BlockS:=if β.before > 0 then { β with before:=β.before - 1,failed:=β.failed || β.before - 1 == 0 } else β
def ChipS.write (σ:ChipS) (p k:Int) (n:Nat) (f:Int → Int):Int × ChipS :=
 if ¬ isAt p k then (1,σ) else if n ≠ 64 then (1,σ) else if σ.off = true then (7,σ) else if (σ.at_ p k).is = true then (9,σ) else
 if σ.step.1 ≠ 0 then σ.step else
 if (σ.step.2.b (p / 8)).worn.failed = true then (8,σ.step.2.updB (p / 8) (σ.step.2.b (p / 8)).worn) else (0,(σ.step.2.updB (p / 8) (σ.step.2.b (p / 8)).worn).put p k ⟨f,f,true,0⟩)
section
variable (k:Nat) {m:Mem} {c:Nat} {σ:ChipS} (h:m[c]? = some (.live (chipC σ)))
theorem nand_at_is (p q:Int):nand_Chip_at k (some ⟨c,0,none⟩) p q m = some (if isAt p q then (some ⟨c,chA p q,none⟩,.nilIface,m) else (none,errC 1,m)):=by
 unfold nand_Chip_at
 by_cases hp:isAt p q
 ·have ⟨h0,h1,h2,h3⟩:=hp
  rw [if_pos hp]
  simp (disch:=omega) only [SX,plus]
  rfl
 ·rw [if_neg hp]
  unfold isAt at hp
  simp only [cond_eq_ite,decide_eq_true_eq,errC]
  grind
theorem nand_block_is (x:Int):nand_Chip_block k (some ⟨c,0,none⟩) x m = some (if 0 ≤ x ∧ x < 12 then (some ⟨c,x.toNat * 4164,none⟩,.nilIface,m) else (none,errC 1,m)):=by
 unfold nand_Chip_block
 by_cases hp:0 ≤ x ∧ x < 12
 ·obtain ⟨h0,h1⟩:=hp
  rw [if_pos ⟨h0,h1⟩]
  simp (disch:=omega) only [SX,plus]
 ·rw [if_neg hp]
  simp only [cond_eq_ite,decide_eq_true_eq,errC]
  grind
include h
theorem nand_step_is (hs:0 ≤ σ.steps ∧ σ.steps < 4611686018427387904) (hb:0 ≤ σ.budget ∧ σ.budget < 9223372036854775808):nand_Chip_step k (some ⟨c,0,none⟩) m = some (errC σ.step.1,wr m c (chipC σ.step.2)):=by
 unfold nand_Chip_step ChipS.step
 cases hc:σ.cut with
 | false =>
  simp (disch:=omega) only [SX,plus,chip_ldCut h,hc,nand_Chip_step_j1,chip_ldSteps h,chip_stSteps h]
  simp [errC,hc]
 | true =>
  by_cases h0:σ.budget = 0
  ·simp (disch:=omega) only [SX,plus,chip_ldCut h,hc,chip_ldBudget h,chip_stOff h]
   simp [errC,hc,h0]
  ·simp (disch:=omega) only [SX,plus,chip_ldCut h,hc,chip_ldBudget h,chip_stBudget h,nand_Chip_step_j1,chip_ldSteps (wr_get h),chip_stSteps (wr_get h)]
   simp [errC,hc,h0]
theorem nand_damage_is (hk:64 < k) {p q:Int} (hp:isAt p q):nand_chunk_damage k (some ⟨c,chA p q,none⟩) m = some ((σ.at_ p q).damage,m):=by
 have key:∀ (d n i:Nat),i + d = 64 → d < n → nand_chunk_damage_l0 k (fun y3 m6 => some (y3,m6)) n (some ⟨c,chA p q,none⟩) (cntNe (σ.at_ p q).now (σ.at_ p q).tru i) (arr .u8 64 (σ.at_ p q).now) i m = some ((σ.at_ p q).damage,m):=by
  intro d
  induction d with
  | zero =>
   intro n i h1 h2
   cases n with
   | zero => omega
   | succ n =>
    have:i = 64:=by omega
    subst this
    rw [nand_chunk_damage_l0_s];unfold nand_chunk_damage_l0_b
    rfl
  | succ d ih =>
   intro n i h1 h2
   cases n with
   | zero => omega
   | succ n =>
    have ih:=ih n (i + 1) (by omega) (by omega)
    have hc:=cntNe_le (σ.at_ p q).now (σ.at_ p q).tru i
    have e1:cInt .u8 (arr .u8 64 (σ.at_ p q).now) i = some ((σ.at_ p q).now i):=by simp [cInt,arr_get (show i < 64 by omega)]
    have e2:=chip_ldTru h hp (i:=(i:Int)) (by omega) (by omega)
    rw [Int.toNat_natCast] at e2
    rw [nand_chunk_damage_l0_s];unfold nand_chunk_damage_l0_b
    simp (disch:=omega) only [SX,plus,e1,e2,nand_chunk_damage_j1,cond_eq_ite,bne_iff_ne]
    rw [cntNe_succ] at ih
    grind
 unfold nand_chunk_damage
 simp (disch:=omega) only [SX,plus,chip_cellsNow h hp]
 exact key 64 k 0 rfl hk
theorem nand_Steps_is:nand_Chip_Steps k (some ⟨c,0,none⟩) m = some (σ.steps,m):=by
 unfold nand_Chip_Steps
 simp (disch:=omega) only [SX,plus,chip_ldSteps h]
theorem nand_Power_is:nand_Chip_Power k (some ⟨c,0,none⟩) m = some (wr m c (chipC { σ with off:=false,cut:=false,budget:=0 })):=by
 unfold nand_Chip_Power
 simp (disch:=omega) only [SX,plus,chip_stOff h,chip_stCut (wr_get h),chip_stBudget (wr_get h)]
theorem nand_Cut_is (n:Int):nand_Chip_Cut k (some ⟨c,0,none⟩) n m = some (if n < 0 then (errC 1,m) else (.nilIface,wr m c (chipC (if σ.off = true then σ else { σ with cut:=true,budget:=n })))):=by
 unfold nand_Chip_Cut nand_Chip_Cut_j1
 by_cases h0:n < 0
 ·simp (disch:=omega) only [SX,plus,if_pos h0];rfl
 ·rw [if_neg h0]
  cases ho:σ.off with
  | true => simp (disch:=omega) only [SX,plus,chip_ldOff h,ho];simp [wr_same h]
  | false => simp (disch:=omega) only [SX,plus,chip_ldOff h,ho,chip_stCut h,chip_stBudget (wr_get h)];simp
theorem nand_Reads_is (x:Int):nand_Chip_Reads k (some ⟨c,0,none⟩) x m = some (if 0 ≤ x ∧ x < 12 then ((σ.b x).reads,.nilIface,m) else (0,errC 1,m)):=by
 unfold nand_Chip_Reads
 rw [nand_block_is]
 by_cases hx:0 ≤ x ∧ x < 12
 ·simp (disch:=omega) only [SX,plus,if_pos hx,sync_atomic_Int64_Load,sync_atomic_LoadInt64,atLoad,chip_ldReads h hx.1 hx.2]
 ·simp (disch:=omega) only [SX,plus,if_neg hx,isNil_errC]
theorem nand_Failed_is (x:Int):nand_Chip_Failed k (some ⟨c,0,none⟩) x m = some (if 0 ≤ x ∧ x < 12 then ((σ.b x).failed,.nilIface,m) else (false,errC 1,m)):=by
 unfold nand_Chip_Failed
 rw [nand_block_is]
 by_cases hx:0 ≤ x ∧ x < 12
 ·simp (disch:=omega) only [SX,plus,if_pos hx,chip_ldFailed h hx.1 hx.2]
 ·simp (disch:=omega) only [SX,plus,if_neg hx,isNil_errC]
theorem nand_FailErase_is (x:Int):nand_Chip_FailErase k (some ⟨c,0,none⟩) x m = some (if 0 ≤ x ∧ x < 12 then (.nilIface,wr m c (chipC (σ.updB x { σ.b x with atErase:=true }))) else (errC 1,m)):=by
 unfold nand_Chip_FailErase
 rw [nand_block_is]
 by_cases hx:0 ≤ x ∧ x < 12
 ·simp (disch:=omega) only [SX,plus,if_pos hx,chip_stAtErase h hx.1 hx.2]
 ·simp (disch:=omega) only [SX,plus,if_neg hx,isNil_errC]
theorem nand_FailProgram_is (x n:Int) (hn:n < 9223372036854775808):nand_Chip_FailProgram k (some ⟨c,0,none⟩) x n m = some (if 0 ≤ x ∧ x < 12 ∧ 0 ≤ n then (.nilIface,wr m c (chipC (σ.updB x { σ.b x with before:=(if n ≤ 9223372036854775806 then n else 9223372036854775806) + 1 }))) else (errC 1,m)):=by
 unfold nand_Chip_FailProgram
 rw [nand_block_is]
 by_cases hx:0 ≤ x ∧ x < 12
 ·by_cases h0:n < 0
  ·simp (disch:=omega) only [SX,plus,if_pos hx,if_neg (show ¬ (0 ≤ x ∧ x < 12 ∧ 0 ≤ n) by omega)];rfl
  ·have e:minI n 9223372036854775806 = if n ≤ 9223372036854775806 then n else 9223372036854775806:=by unfold minI;split <;> split <;> omega
   have e2:0 ≤ (if n ≤ 9223372036854775806 then n else 9223372036854775806) ∧ (if n ≤ 9223372036854775806 then n else 9223372036854775806) ≤ 9223372036854775806:=by split <;> omega
   simp (disch:=omega) only [SX,plus,if_pos hx,if_pos (show (0 ≤ x ∧ x < 12 ∧ 0 ≤ n) by omega),e,chip_stBefore h hx.1 hx.2]
 ·simp (disch:=omega) only [SX,plus,if_neg hx,isNil_errC,if_neg (show ¬ (0 ≤ x ∧ x < 12 ∧ 0 ≤ n) by omega)]
end
end Go.Proofs.YtchonnaoojpdoaaGreat
set_option linter.unusedVariables false
set_option linter.unusedSectionVars false
set_option linter.unusedSimpArgs false
namespace Go.Proofs.YtchonnaoojpdoaaGreat
open Go.Mx
def blank:ChunkS:=⟨fun _ => 255,fun _ => 255,false,0⟩
def zeroCh:ChunkS:=⟨fun _ => 0,fun _ => 0,false,0⟩
def BlockS.clear (β:BlockS):BlockS:={ β with ch:=fun _ => blank,reads:=0 }
theorem blockC_congr {β:BlockS} {f:Int → ChunkS} (h:∀ j:Int,0 ≤ j → j < 32 → β.ch j = f j):blockC β = blockC { β with ch:=f }:=by
 unfold blockC
 rw [farr_congr (g:=fun j => chunkC (f j)) fun j h1 h2 => by simp only [h j h1 (by omega)]]
theorem chipC_congr {σ:ChipS} {f:Int → BlockS} (h:∀ x:Int,0 ≤ x → x < 12 → blockC (σ.b x) = blockC (f x)):chipC σ = chipC { σ with b:=f }:=by
 unfold chipC
 rw [farr_congr (g:=fun j => blockC (f j)) fun j h1 h2 => by simp only [h j h1 (by omega)]]
section
variable {m:Mem} {w:Nat} {s:ChunkS} (h:m[w]? = some (.live (chunkC s)))
include h
theorem ch_stNow {i:Int} (h0:0 ≤ i) (h1:i < 64) (v:Int):st m ⟨w,i.toNat,none⟩ (.int .u8 v) = some (wr m w (chunkC { s with now:=upd s.now i v })):=by
 rw [st_wr h (by rw [chunkC_len];omega)]
 unfold chunkC;rw [List.set_append_left _ _ (by simp;omega),arr_set h0]
theorem ch_now:ldCells m ⟨w,0,none⟩ 64 = some (arr .u8 64 s.now):=by
 rw [ldCells_of h (by rw [chunkC_len];omega)]
 unfold chunkC;rw [List.drop_zero];exact congrArg some arr_take
theorem ch_stTru (f:Int → Int):stCells m ⟨w,64,none⟩ (arr .u8 64 f) = some (wr m w (chunkC { s with tru:=f })):=by
 rw [stCells_wr h (by rw [chunkC_len,arr_length];omega)]
 unfold chunkC;rw [List.take_left' (by simp),arr_length,List.append_assoc]
 rw [show 64 + 64 = (arr .u8 64 s.now).length + 64 by simp,List.drop_length_add_append,List.drop_left' (by simp)]
theorem ch_all:ldCells m ⟨w,0,none⟩ 130 = some (chunkC s):=by
 rw [ldCells_of h (by rw [chunkC_len];omega),List.drop_zero,List.take_of_length_le (by rw [chunkC_len];omega)]
end
theorem nand_clear_ok (k:Nat) (hk:100 < k) {m:Mem} {c:Nat} {σ:ChipS} (h:m[c]? = some (.live (chipC σ))) {x:Int} (h0:0 ≤ x) (h1:x < 12) :
 ∃ g,nand_block_clear k (some ⟨c,x.toNat * 4164,none⟩) m = some (wr m c (chipC (σ.updB x (σ.b x).clear)) ++ [g]):=by
 have key:Ok (nand_block_clear k (some ⟨c,x.toNat * 4164,none⟩) m) fun m' => ∃ g,m' = wr m c (chipC (σ.updB x (σ.b x).clear)) ++ [g]:=by
  unfold nand_block_clear
  have hcl:=get_lt h
  have e0:(repl 64 [Value.int .u8 0] ++ repl 64 [Value.int .u8 0] ++ [Value.bool false] ++ [Value.int .i64 0]) = chunkC zeroCh:=by
   rw [repl_int];simp [chunkC,zeroCh]
  simp only [e0]
  refine nand_block_clear_l0_rule k _ (fun d x0 x2 x6 m' => some ⟨c,x.toNat * 4164,none⟩ = x0 ∧ ⟨m.length,0,none⟩ = x2 ∧ 0 ≤ x6 ∧ x6 + d = 64 ∧ ∃ f:Int → Int,(∀ i,0 ≤ i → i < x6 → f i = 255) ∧ m' = m ++ [.live (chunkC ⟨f,fun _ => 0,false,0⟩)]) ?_ k 64 _ _ 0 _ (by omega)
   ⟨rfl,rfl,by omega,by omega,_,fun i h2 h3 => by omega,rfl⟩
  rintro d nx _ _ i _ ⟨rfl,rfl,hi,hd,f,hf,rfl⟩ hnx
  have hw:=get_last (m:=m) (o:=.live (chunkC ⟨f,fun _ => 0,false,0⟩)) rfl
  unfold nand_block_clear_l0_b
  by_cases h2:i < 64
  ·simp (disch:=omega) only [SX,plus,ch_stNow hw hi h2,wr_last (m:=m) rfl]
   exact hnx (d - 1) _ _ _ _ (by omega) ⟨rfl,rfl,by omega,by omega,upd f i 255,fun j h3 h4 => by unfold upd;have:=hf j h3;grind,rfl⟩
  ·clear hnx
   have hi2:i = 64:=by omega
   subst hi2
   have hw2:=get_last (m:=m) (o:=.live (chunkC ⟨f,f,false,0⟩)) rfl
   have hl:Nat.beq (arr .u8 64 f).length 64 = true:=by rw [arr_length];rfl
   simp (disch:=omega) only [SX,plus,ch_now hw,hl,ch_stTru hw,wr_last (m:=m) rfl]
   have hb:(⟨f,f,false,0⟩:ChunkS).now = f:=rfl
   have hC:chunkC ⟨f,f,false,0⟩ = chunkC blank:=by
    unfold chunkC blank
    rw [arr_congr (f:=f) (g:=fun _ => 255) fun i h3 h4 => hf i h3 (by omega)]
   rw [hC] at hw2 ⊢
   clear hC hb hf hw
   refine nand_block_clear_l2_rule k _ (fun d x0 x2 x16 m' => some ⟨c,x.toNat * 4164,none⟩ = x0 ∧ ⟨m.length,0,none⟩ = x2 ∧ 0 ≤ x16 ∧ x16 + d = 8 ∧ ∃ g:Int → ChunkS,(∀ j,0 ≤ j → j < x16 * 4 → g j = blank) ∧ m' = wr m c (chipC (σ.updB x { σ.b x with ch:=g })) ++ [.live (chunkC blank)]) ?_ k 8 _ _ 0 _ (by omega)
    ⟨rfl,rfl,by omega,by omega,(σ.b x).ch,fun j h2 h3 => by omega,by rw [show ({ σ.b x with ch:=(σ.b x).ch }:BlockS) = σ.b x from rfl,updB_self,wr_same h]⟩
   rintro d nx _ _ i _ ⟨rfl,rfl,hi,hd,g,hg,rfl⟩ hnx
   unfold nand_block_clear_l2_b
   by_cases h3:i < 8
   ·simp (disch:=omega) only [SX,plus]
    refine nand_block_clear_l4_rule k _ (fun d' x0 x2 x4 x16 x19 m' => some ⟨c,x.toNat * 4164,none⟩ = x0 ∧ ⟨m.length,0,none⟩ = x2 ∧ i = x4 ∧ i = x16 ∧ 0 ≤ x19 ∧ x19 + d' = 4 ∧ ∃ g:Int → ChunkS,(∀ j,0 ≤ j → j < i * 4 + x19 → g j = blank) ∧ m' = wr m c (chipC (σ.updB x { σ.b x with ch:=g })) ++ [.live (chunkC blank)]) ?_ k 4 _ _ _ _ 0 _ (by omega)
     ⟨rfl,rfl,rfl,rfl,by omega,by omega,g,by simpa using hg,rfl⟩
    rintro d' nx' _ _ _ _ q _ ⟨rfl,rfl,rfl,rfl,hq,hd',g,hg,rfl⟩ hnx'
    unfold nand_block_clear_l4_b
    by_cases h4:q < 4
    ·have hlen:(wr m c (chipC (σ.updB x { σ.b x with ch:=g }))).length = m.length:=wr_len
     have hw3:=get_last (o:=.live (chunkC blank)) hlen
     have hc3:(wr m c (chipC (σ.updB x { σ.b x with ch:=g })) ++ [MObj.live (chunkC blank)])[c]? = some (.live (chipC (σ.updB x { σ.b x with ch:=g }))):=get_grow (wr_get h)
     have hl2:Nat.beq (chunkC blank).length 130 = true:=by rw [chunkC_len];rfl
     have e1:stCells (wr m c (chipC (σ.updB x { σ.b x with ch:=g })) ++ [MObj.live (chunkC blank)]) ⟨c,x.toNat * 4164 + i.toNat * 520 + q.toNat * 130,none⟩ (chunkC blank) = some (wr m c (chipC (σ.updB x { σ.b x with ch:=upd g (i * 4 + q) blank })) ++ [.live (chunkC blank)]):=by
      rw [stCells_wr hc3 (by rw [chipC_len,chunkC_len];omega),wr_app (by rw [hlen];exact hcl),wr_wr]
      have e2:=block_put (β:={ σ.b x with ch:=g }) (j:=(i * 4 + q).toNat) (by omega) (o:=0) (vs:=chunkC blank) (by rw [chunkC_len];omega) (c:=blank) (by
       rw [List.take_zero,List.nil_append,List.drop_of_length_le (by rw [chunkC_len,chunkC_len];omega),List.append_nil])
      rw [show (((i * 4 + q).toNat:Nat):Int) = i * 4 + q by omega,Nat.add_zero] at e2
      have e3:=chip_bput (σ:=σ.updB x { σ.b x with ch:=g }) h0 h1 (o:=(i * 4 + q).toNat * 130) (vs:=chunkC blank) (by rw [chunkC_len];omega) (by rw [updB_b];exact e2)
      rw [updB_updB] at e3
      rw [show x.toNat * 4164 + i.toNat * 520 + q.toNat * 130 = x.toNat * 4164 + (i * 4 + q).toNat * 130 by omega,e3]
      rfl
     simp (disch:=omega) only [SX,plus,ch_all hw3,hl2,e1]
     exact hnx' (d' - 1) _ _ _ _ _ _ (by omega) ⟨rfl,rfl,rfl,rfl,by omega,by omega,_,fun j h5 h6 => by unfold upd;have:=hg j h5;grind,rfl⟩
    ·simp (disch:=omega) only [SX,plus]
     exact hnx (d - 1) _ _ _ _ (by omega) ⟨rfl,rfl,by omega,by omega,g,fun j h5 h6 => hg j h5 (by omega),rfl⟩
   ·clear hnx
    have hlen:(wr m c (chipC (σ.updB x { σ.b x with ch:=g }))).length = m.length:=wr_len
    have hc3:(wr m c (chipC (σ.updB x { σ.b x with ch:=g })) ++ [MObj.live (chunkC blank)])[c]? = some (.live (chipC (σ.updB x { σ.b x with ch:=g }))):=get_grow (wr_get h)
    have e1:=chip_stReads hc3 h0 h1 0
    rw [wr_app (by rw [hlen];exact hcl),wr_wr,updB_updB,updB_b] at e1
    simp (disch:=omega) only [SX,plus,sync_atomic_Int64_Store,sync_atomic_StoreInt64,atStore,e1]
    refine .some ⟨.live (chunkC blank),?_⟩
    congr 2
    refine (chipC_congr (f:=(σ.updB x (σ.b x).clear).b) fun y h5 h6 => ?_).trans rfl
    unfold ChipS.updB upd
    by_cases h7:y = x
    ·simp only [h7,if_true]
     exact blockC_congr (f:=fun _ => blank) fun j h8 h9 => hg j h8 (by omega)
    ·simp only [h7,if_false]
 obtain ⟨m',h2,g,rfl⟩:=key
 exact ⟨g,h2⟩
end Go.Proofs.YtchonnaoojpdoaaGreat
set_option linter.unusedVariables false
set_option linter.unusedSectionVars false
set_option linter.unusedSimpArgs false
namespace Go.Proofs.YtchonnaoojpdoaaGreat
open Go.Mx
def ChipS.erase (σ:ChipS) (x:Int):Int × ChipS :=
 if ¬ (0 ≤ x ∧ x < 12) then (1,σ) else if σ.off = true then (7,σ) else if σ.step.1 ≠ 0 then σ.step else
 if (σ.step.2.b x).failed || (σ.step.2.b x).atErase then (8,σ.step.2.updB x { σ.step.2.b x with failed:=true }) else (0,σ.step.2.updB x ({ σ.step.2.b x with failed:=false }:BlockS).clear)
theorem step_b (σ:ChipS):σ.step.2.b = σ.b:=by unfold ChipS.step;split <;> (try split) <;> rfl
theorem put_b (σ:ChipS) (x:Int) (β γ:BlockS):((σ.updB x β).updB x γ) = σ.updB x γ:=updB_updB σ x β γ
section
variable (k:Nat) {m:Mem} {c:Nat} {σ:ChipS} (h:m[c]? = some (.live (chipC σ)))
include h
theorem nand_Erase_ok (hk:100 < k) (hs:0 ≤ σ.steps ∧ σ.steps < 4611686018427387904) (hb:0 ≤ σ.budget ∧ σ.budget < 9223372036854775808) (x:Int) :
 ∃ g,nand_Chip_Erase k (some ⟨c,0,none⟩) x m = some (errC (σ.erase x).1,wr m c (chipC (σ.erase x).2) ++ g):=by
 unfold nand_Chip_Erase
 rw [nand_block_is]
 unfold ChipS.erase
 by_cases hx:0 ≤ x ∧ x < 12
 rotate_left
 ·refine ⟨[],?_⟩
  rw [if_neg hx,if_pos hx]
  have e:decide ((1:Int) = 0) = false:=rfl
  simp (disch:=omega) only [SX,plus,isNil_errC,e]
  rw [wr_same h,List.append_nil]
 rw [if_pos hx,if_neg (not_not_intro hx)]
 cases ho:σ.off with
 | true =>
  refine ⟨[],?_⟩
  rw [if_pos rfl]
  simp (disch:=omega) only [SX,plus,chip_ldOff h,ho]
  simp only [wr_same h,List.append_nil];rfl
 | false =>
  rw [if_neg (by simp)]
  have hst:=nand_step_is k h hs hb
  by_cases h1:σ.step.1 = 0
  rotate_left
  ·refine ⟨[],?_⟩
   have e:=decide_eq_false h1
   rw [if_pos h1,List.append_nil]
   simp (disch:=omega) only [SX,plus,chip_ldOff h,ho,hst,isNil_errC,e]
  have e:=decide_eq_true h1
  rw [if_neg (by simpa using h1)]
  have h2:=wr_get (cs:=chipC σ.step.2) h
  cases hf:(σ.step.2.b x).failed with
  | true =>
   refine ⟨[],?_⟩
   have h3:=wr_get (cs:=chipC (σ.step.2.updB x { σ.step.2.b x with failed:=true })) h2
   have e4:=chip_ldFailed h3 hx.1 hx.2
   rw [updB_b,wr_wr] at e4
   rw [Bool.true_or,if_pos rfl,List.append_nil]
   simp (disch:=omega) only [SX,plus,chip_ldOff h,ho,hst,isNil_errC,e,chip_ldFailed h2 hx.1 hx.2,hf,chip_stFailed h2 hx.1 hx.2,e4]
   rfl
  | false =>
   rw [Bool.false_or]
   have h3:=wr_get (cs:=chipC (σ.step.2.updB x { σ.step.2.b x with failed:=(σ.step.2.b x).atErase })) h2
   have e4:=chip_ldFailed h3 hx.1 hx.2
   rw [updB_b,wr_wr] at e4
   cases ha:(σ.step.2.b x).atErase with
   | true =>
    refine ⟨[],?_⟩
    simp only [ha] at e4
    rw [if_pos rfl,List.append_nil]
    simp (disch:=omega) only [SX,plus,chip_ldOff h,ho,hst,isNil_errC,e,chip_ldFailed h2 hx.1 hx.2,hf,chip_ldAtErase h2 hx.1 hx.2,ha,chip_stFailed h2 hx.1 hx.2,e4]
    rfl
   | false =>
    simp only [ha] at e4 h3
    rw [wr_wr] at h3
    obtain ⟨g,hg⟩:=nand_clear_ok k hk h3 hx.1 hx.2
    refine ⟨[g],?_⟩
    rw [updB_b,updB_updB,wr_wr] at hg
    rw [if_neg (by simp)]
    simp (disch:=omega) only [SX,plus,chip_ldOff h,ho,hst,isNil_errC,e,chip_ldFailed h2 hx.1 hx.2,hf,chip_ldAtErase h2 hx.1 hx.2,ha,chip_stFailed h2 hx.1 hx.2,e4,hg]
    rfl
omit h in
theorem write_j1 {m:Mem} {τ:ChipS} (h:m[c]? = some (.live (chipC τ))) {p q:Int} (hp:isAt p q) {a:Option Addr} {f:Int → Int} (hsrc:rdSl m a 64 1 = some (arr .u8 64 f)) (v:Value) (mm:Mem) :
 nand_Chip_Write_j1 k p a 64 (some ⟨c,chA p q,none⟩,v,mm) ⟨c,0,none⟩ m = some (if (τ.b (p / 8)).failed = true then (errC 8,m) else (.nilIface,wr m c (chipC (τ.put p q ⟨f,f,true,0⟩)))):=by
 have hp':=hp
 obtain ⟨h0,h1,h2,h3⟩:=hp'
 unfold nand_Chip_Write_j1
 have e0:=chip_ldFailed h (x:=p / 8) (by omega) (by omega)
 cases hf:(τ.b (p / 8)).failed with
 | true =>
  rw [hf] at e0
  rw [if_pos rfl]
  simp (disch:=omega) only [SX,plus,e0]
  rfl
 | false =>
  rw [hf] at e0
  rw [if_neg (by simp)]
  have g1:=wr_get (cs:=chipC (τ.put p q { τ.at_ p q with now:=f })) h
  have e1:=chip_stCellsNow h hp f
  have e2:=chip_cellsNow g1 hp
  rw [put_at] at e2
  have e3:=chip_stCellsTru g1 hp f
  rw [put_at,put_put,wr_wr] at e3
  have g2:=wr_get (cs:=chipC (τ.put p q { ({ τ.at_ p q with now:=f }:ChunkS) with tru:=f })) h
  have e4:=chip_stIs g2 hp true
  rw [put_at,put_put,wr_wr] at e4
  have g3:=wr_get (cs:=chipC (τ.put p q { ({ ({ τ.at_ p q with now:=f }:ChunkS) with tru:=f }:ChunkS) with is:=true })) h
  have e5:=chip_stWorst g3 hp 0
  rw [put_at,put_put,wr_wr] at e5
  have e6:sliceK.clear (some ⟨c,chA p q,none⟩) true = some ⟨c,chA p q,none⟩:=rfl
  have e7:∀ l,oper.stSl m (some ⟨c,chA p q,none⟩) l = stCells m ⟨c,chA p q,none⟩ l:=fun _ => rfl
  have e8:Nat.beq (arr .u8 64 f).length 64 = true:=by rw [arr_length];rfl
  simp (disch:=omega) only [SX,plus,e0,Nat.min_self,hsrc,e6,e7,e1,e2,e8,e3,e4,e5]
theorem nand_Write_is (hs:0 ≤ σ.steps ∧ σ.steps < 4611686018427387904) (hb:0 ≤ σ.budget ∧ σ.budget < 9223372036854775808) (hw:∀ x,0 ≤ (σ.b x).before ∧ (σ.b x).before < 9223372036854775808) (p q:Int) {a:Option Addr} {n cc:Nat} {f:Int → Int}
 (hsrc:n = 64 → ∀ τ:ChipS,rdSl (wr m c (chipC τ)) a 64 1 = some (arr .u8 64 f)) :
 nand_Chip_Write k (some ⟨c,0,none⟩) p q a n cc m = some (errC (σ.write p q n f).1,wr m c (chipC (σ.write p q n f).2)):=by
 unfold nand_Chip_Write
 rw [nand_at_is]
 unfold ChipS.write
 have e1n:decide ((1:Int) = 0) = false:=rfl
 by_cases hp:isAt p q
 rotate_left
 ·rw [if_neg hp,if_pos hp]
  simp (disch:=omega) only [SX,plus,isNil_errC,e1n]
  rw [wr_same h]
 rw [if_pos hp,if_neg (not_not_intro hp)]
 by_cases hn:n = 64
 rotate_left
 ·rw [if_pos hn]
  simp (disch:=omega) only [SX,plus]
  rw [wr_same h];rfl
 subst hn
 rw [if_neg (by simp)]
 cases ho:σ.off with
 | true =>
  rw [if_pos rfl]
  simp (disch:=omega) only [SX,plus,chip_ldOff h,ho]
  rw [wr_same h];rfl
 | false =>
 rw [if_neg (by simp)]
 cases hi:(σ.at_ p q).is with
 | true =>
  rw [if_pos rfl]
  simp (disch:=omega) only [SX,plus,chip_ldOff h,ho,chip_ldIs h hp,hi]
  rw [wr_same h];rfl
 | false =>
 rw [if_neg (by simp)]
 have hst:=nand_step_is k h hs hb
 by_cases h1:σ.step.1 = 0
 rotate_left
 ·have e:=decide_eq_false h1
  rw [if_pos h1]
  simp (disch:=omega) only [SX,plus,chip_ldOff h,ho,chip_ldIs h hp,hi,hst,isNil_errC,e]
 have e:=decide_eq_true h1
 rw [if_neg (by simpa using h1)]
 have hp':=hp
 obtain ⟨h0,h2,h3,h4⟩:=hp'
 have g1:=wr_get (cs:=chipC σ.step.2) h
 have eb:=chip_ldBefore g1 (x:=p / 8) (by omega) (by omega)
 have hbf:=hw (p / 8)
 rw [← step_b σ] at hbf
 have fin:∀ (v:Value) (mm:Mem),nand_Chip_Write_j1 k p a 64 (some ⟨c,chA p q,none⟩,v,mm) ⟨c,0,none⟩ (wr m c (chipC (σ.step.2.updB (p / 8) (σ.step.2.b (p / 8)).worn))) =
  some (errC (if (σ.step.2.b (p / 8)).worn.failed = true then (8,σ.step.2.updB (p / 8) (σ.step.2.b (p / 8)).worn) else (0,(σ.step.2.updB (p / 8) (σ.step.2.b (p / 8)).worn).put p q ⟨f,f,true,0⟩):Int × ChipS).1,
   wr m c (chipC (if (σ.step.2.b (p / 8)).worn.failed = true then (8,σ.step.2.updB (p / 8) (σ.step.2.b (p / 8)).worn) else (0,(σ.step.2.updB (p / 8) (σ.step.2.b (p / 8)).worn).put p q ⟨f,f,true,0⟩):Int × ChipS).2)):=by
  intro v mm
  rw [write_j1 k (wr_get h) hp (hsrc rfl _),updB_b]
  split
  ·rfl
  ·rw [wr_wr];rfl
 by_cases hz:(σ.step.2.b (p / 8)).before > 0
 ·have hworn:(σ.step.2.b (p / 8)).worn = { σ.step.2.b (p / 8) with before:=(σ.step.2.b (p / 8)).before - 1,failed:=(σ.step.2.b (p / 8)).failed || (σ.step.2.b (p / 8)).before - 1 == 0 }:=by
   unfold BlockS.worn;rw [if_pos hz]
  have e2:=chip_stBefore g1 (x:=p / 8) (by omega) (by omega) ((σ.step.2.b (p / 8)).before - 1)
  rw [wr_wr] at e2
  have g2:=wr_get (cs:=chipC (σ.step.2.updB (p / 8) { σ.step.2.b (p / 8) with before:=(σ.step.2.b (p / 8)).before - 1 })) h
  have e3:=chip_ldFailed g2 (x:=p / 8) (by omega) (by omega)
  rw [updB_b] at e3
  have e4:=chip_ldBefore g2 (x:=p / 8) (by omega) (by omega)
  rw [updB_b] at e4
  cases hf:(σ.step.2.b (p / 8)).failed with
  | true =>
   rw [hf,Bool.true_or] at hworn
   have e5:=chip_stFailed g2 (x:=p / 8) (by omega) (by omega) true
   rw [updB_b,updB_updB,wr_wr] at e5
   rw [hworn] at fin ⊢
   have e3:=e3.trans (congrArg some hf)
   simp (disch:=omega) only [SX,plus,chip_ldOff h,ho,chip_ldIs h hp,hi,hst,isNil_errC,e,eb,e2,e3,e5,fin]
  | false =>
   rw [hf,Bool.false_or] at hworn
   have e5:=chip_stFailed g2 (x:=p / 8) (by omega) (by omega) ((σ.step.2.b (p / 8)).before - 1 == 0)
   rw [updB_b,updB_updB,wr_wr] at e5
   rw [hworn] at fin ⊢
   have e3:=e3.trans (congrArg some hf)
   simp (disch:=omega) only [SX,plus,chip_ldOff h,ho,chip_ldIs h hp,hi,hst,isNil_errC,e,eb,e2,e3,e4,e5,fin]
 ·have hworn:(σ.step.2.b (p / 8)).worn = σ.step.2.b (p / 8):=by
   unfold BlockS.worn;rw [if_neg hz]
  rw [hworn,updB_self] at fin ⊢
  simp (disch:=omega) only [SX,plus,chip_ldOff h,ho,chip_ldIs h hp,hi,hst,isNil_errC,e,eb,fin]
end
end Go.Proofs.YtchonnaoojpdoaaGreat
set_option linter.unusedVariables false
set_option linter.unusedSectionVars false
set_option linter.unusedSimpArgs false
namespace Go.Proofs.YtchonnaoojpdoaaGreat
open Go.Mx
def zblock:BlockS:=⟨fun _ => zeroCh,0,false,0,false⟩
def fblock:BlockS:=⟨fun _ => blank,0,false,0,false⟩
def zchip:ChipS:=⟨fun _ => zblock,false,false,0,0⟩
def fresh:ChipS:=⟨fun _ => fblock,false,false,0,0⟩
theorem chunk_zero:((repl 64 [Value.int .u8 0]) ++ (repl 64 [Value.int .u8 0]) ++ [Value.bool false] ++ [Value.int .i64 0]) = chunkC zeroCh:=by
 rw [repl_int];simp [chunkC,zeroCh]
theorem block_zero:((repl 8 (repl 4 (chunkC zeroCh))) ++ ([] ++ [] ++ [Value.int .i64 0]) ++ [Value.bool false] ++ [Value.int .i64 0] ++ [Value.bool false]) = blockC zblock:=by
 rw [repl_repl,repl_farr]
 unfold blockC zblock
 simp only [List.append_assoc,List.nil_append,List.cons_append]
theorem chip_zero:((repl 12 (blockC zblock)) ++ [Value.bool false] ++ [Value.bool false] ++ [Value.int .i64 0] ++ [Value.int .i64 0]) = chipC zchip:=by
 rw [repl_farr]
 unfold chipC zchip
 simp only [List.append_assoc,List.nil_append,List.cons_append]
theorem tt_chip:∃ d s b q,tt ty_nand_Chip = ⟨d,s,b,((repl 12 ((repl 8 (repl 4 ((repl 64 [.int .u8 0]) ++ (repl 64 [.int .u8 0]) ++ [.bool false] ++ [.int .i64 0]))) ++ ([] ++ [] ++ [.int .i64 0]) ++ [.bool false] ++ [.int .i64 0] ++ [.bool false])) ++ [.bool false] ++ [.bool false] ++ [.int .i64 0] ++ [.int .i64 0]),q⟩ :=
 ⟨_,_,_,_,rfl⟩
theorem zero_chip:(tt ty_nand_Chip).zero = chipC zchip:=by
 obtain ⟨d,s,b,q,h⟩:=tt_chip
 rw [h]
 simp only
 rw [chunk_zero,block_zero,chip_zero]
theorem chipNew_ok (k:Nat) (hk:100 < k) {m:Mem} {F:Heap} (hO:Mx.Own m F):Ok (nand_New k m) fun r => ∃ c,r.1 = some ⟨c,0,none⟩ ∧ Mx.Own r.2 ((c,.live (chipC fresh)) :: F):=by
 unfold nand_New
 have hl:Nat.beq (chipC zchip).length 49972 = true:=by rw [chipC_len];rfl
 have h1:=hO.new (.live (chipC zchip))
 rw [zero_chip]
 simp (disch:=omega) only [SX,plus,hl]
 generalize m ++ [MObj.live (chipC zchip)] = m1 at h1 ⊢
 generalize m.length = c at h1 ⊢
 refine nand_New_l0_rule k _ (fun d x1 x5 m' => (⟨c,0,none⟩:Addr) = x1 ∧ 0 ≤ x5 ∧ x5 + d = 12 ∧ ∃ f:Int → BlockS,(∀ y,y < x5 → f y = fblock) ∧ (∀ y,x5 ≤ y → f y = zblock) ∧ Mx.Own m' ((c,.live (chipC { zchip with b:=f })) :: F)) ?_ k 12 _ 0 _ (by omega)
  ⟨rfl,by omega,by omega,fun y => if y < 0 then fblock else zblock,fun y hy => if_pos hy,fun y hy => if_neg (by omega),by
   rw [← chipC_congr (σ:=zchip) fun x h2 h3 => by simp only [if_neg (show ¬ x < 0 by omega)];rfl];exact h1⟩
 rintro d nx _ i m' ⟨rfl,hi,hd,f,hf,hg,h2⟩ hnx
 unfold nand_New_l0_b
 by_cases h3:i < 12
 ·obtain ⟨g,e⟩:=nand_clear_ok k hk (h2.at 0 rfl) hi h3
  simp (disch:=omega) only [SX,plus,e]
  refine hnx (d - 1) _ _ _ (by omega) ⟨rfl,by omega,by omega,upd f i fblock,fun y hy => ?_,fun y hy => ?_,?_⟩
  ·unfold upd;split
   ·rfl
   ·exact hf y (by omega)
  ·rw [upd_ne (by omega)];exact hg y (by omega)
  ·have:=(h2.wr 0 rfl (chipC (({ zchip with b:=f }:ChipS).updB i (f i).clear))).grow [g]
   rw [hg i (by omega)] at this
   have e2:chipC (({ zchip with b:=f }:ChipS).updB i ((({ zchip with b:=f }:ChipS).b i)).clear) = chipC (({ zchip with b:=f }:ChipS).updB i zblock.clear):=by simp only [hg i (Int.le_refl _)]
   rw [e2]
   exact this
 ·simp (disch:=omega) only [SX,plus]
  refine .some ⟨c,rfl,?_⟩
  rw [chipC_congr (σ:=fresh) (f:=f) fun x h4 h5 => by rw [hf x (by omega)];rfl]
  exact h2
def ChipS.page (σ:ChipS) (p:Int):Int → Int:=fun i => (σ.at_ p (i / 64)).now (i % 64)
def ChipS.readd (σ:ChipS) (p:Int):ChipS:=σ.updB (p / 8) { σ.b (p / 8) with reads:=(σ.b (p / 8)).reads + 1 }
theorem readd_at (σ:ChipS) (p q k:Int):(σ.readd p).at_ q k = σ.at_ q k:=by
 unfold ChipS.readd ChipS.at_ ChipS.updB upd
 simp only
 split
 ·rename_i h;rw [h]
 ·rfl
theorem chipRead_off (k:Nat) {m:Mem} {c:Nat} {σ:ChipS} (h:m[c]? = some (.live (chipC σ))) {p:Int} (h0:0 ≤ p) (h1:p < 96) (ho:σ.off = true):nand_Chip_Read k (some ⟨c,0,none⟩) p m = some (⟨none,0,0⟩,errC 7,m):=by
 unfold nand_Chip_Read
 rw [nand_at_is,if_pos ⟨h0,h1,by omega,by omega⟩]
 simp (disch:=omega) only [SX,plus,chip_ldOff h,ho]
 rfl
theorem chipRead_ok (k:Nat) (hk:100 < k) {m:Mem} {c:Nat} {σ:ChipS} {F:Heap} (hO:Mx.Own m ((c,.live (chipC σ)) :: F)) {p:Int} (h0:0 ≤ p) (h1:p < 96) (ho:σ.off = false) (hr:0 ≤ (σ.b (p / 8)).reads ∧ (σ.b (p / 8)).reads < 4611686018427387904) :
 Ok (nand_Chip_Read k (some ⟨c,0,none⟩) p m) fun r => ∃ d,r.1 = ⟨some ⟨d,0,none⟩,256,256⟩ ∧ r.2.1 = .nilIface ∧ Mx.Own r.2.2 ((d,.live (arr .u8 256 (σ.page p))) :: (c,.live (chipC (σ.readd p))) :: F):=by
 have h:=hO.at 0 rfl
 unfold nand_Chip_Read
 rw [nand_at_is,if_pos ⟨h0,h1,by omega,by omega⟩]
 have e1:=chip_ldReads h (x:=p / 8) (by omega) (by omega)
 have e2:=chip_stReads h (x:=p / 8) (by omega) (by omega) ((σ.b (p / 8)).reads + 1)
 have t256:Int.toNat 256 = 256:=rfl
 have t0:Int.toNat 0 = 0:=rfl
 have hO1:=hO.wr 0 rfl (chipC (σ.readd p))
 have hO2:=hO1.new (.live (arr .u8 256 fun _ => 0))
 rw [wr_len] at hO2
 simp (disch:=omega) only [SX,plus,chip_ldOff h,ho,sync_atomic_Int64_Add,sync_atomic_AddInt64,atAdd,e1,e2,repl_int,t256,t0,wr_len]
 change Ok (nand_Chip_Read_l0 _ _ _ _ _ _ _ _ _ (wr m c (chipC (σ.readd p)) ++ _)) _
 generalize wr m c (chipC (σ.readd p)) ++ [MObj.live (arr .u8 256 fun _ => 0)] = m1 at hO2 ⊢
 generalize m.length = d0 at hO2 ⊢
 refine nand_Chip_Read_l0_rule k _ (fun d x1 x8 x9a x9n x9c x36 m' => p = x1 ∧ (⟨c,(p / 8).toNat * 4164,none⟩:Addr) = x8 ∧ (some ⟨d0,0,none⟩:Option Addr) = x9a ∧ 256 = x9c ∧ ∃ j:Nat,x36 = j ∧ j + d = 4 ∧ 64 * j = x9n ∧
  Mx.Own m' ((d0,.live (arr .u8 256 fun i => if i < ((64 * j:Nat):Int) then σ.page p i else 0)) :: (c,.live (chipC (σ.readd p))) :: F)) ?_ k 4 _ _ _ _ _ 0 _ (by omega)
  ⟨rfl,rfl,rfl,rfl,0,rfl,by omega,rfl,by
   rw [arr_congr (f:=fun i => if i < ((64 * 0:Nat):Int) then σ.page p i else 0) (g:=fun _ => 0) fun i h3 h4 => if_neg (by omega)];exact hO2⟩
 rintro d nx _ _ _ _ _ _ m' ⟨rfl,rfl,rfl,rfl,j,rfl,hd,rfl,hO3⟩ hnx
 unfold nand_Chip_Read_l0_b
 by_cases h3:j < 4
 ·have e3:=rdSl_ld (n:=64) (z:=1) (chip_cellsNow (hO3.at 1 rfl) (p:=p) (k:=(j:Int)) ⟨h0,h1,by omega,by omega⟩)
  rw [readd_at] at e3
  have e4:=stCells_wr (sp:=none) (vs:=arr .u8 64 (σ.at_ p j).now) (hO3.at 0 rfl) (off:=64 * j) (by simp;omega)
  rw [arr_length,arr_put (n:=256) (o:=64 * j) (l:=64) (by omega)] at e4
  have e5:∀ a:Addr,sliceK.clear (some ⟨c,a.off,none⟩) true = some ⟨c,a.off,none⟩:=fun _ => rfl
  have e6:sliceK.clear (some ⟨c,(p / 8).toNat * 4164 + (p % 8).toNat * 520 + j * 130,none⟩) true = some ⟨c,chA p j,none⟩:=by
   unfold chA;rw [Int.toNat_natCast];rfl
  simp (disch:=omega) only [SX,plus,e6,e3,appM_room,e4]
  refine hnx (d - 1) _ _ _ _ _ _ _ (by omega) ⟨rfl,rfl,rfl,rfl,j + 1,by omega,by omega,by omega,?_⟩
  have:=hO3.wr 0 rfl (arr .u8 256 fun i => if ((64 * j:Nat):Int) ≤ i ∧ i < ((64 * j:Nat):Int) + ((64:Nat):Int) then (σ.at_ p j).now (i - ((64 * j:Nat):Int)) else (fun i => if i < ((64 * j:Nat):Int) then σ.page p i else 0) i)
  have ec:=arr_congr (k:=.u8) (n:=256) (f:=fun i => if i < ((64 * (j + 1):Nat):Int) then σ.page p i else 0) (g:=fun i => if ((64 * j:Nat):Int) ≤ i ∧ i < ((64 * j:Nat):Int) + ((64:Nat):Int) then (σ.at_ p j).now (i - ((64 * j:Nat):Int)) else (fun i => if i < ((64 * j:Nat):Int) then σ.page p i else 0) i) fun i h6 h7 => by
   by_cases h8:((64 * j:Nat):Int) ≤ i ∧ i < ((64 * j:Nat):Int) + ((64:Nat):Int)
   ·simp only [if_pos h8]
    rw [if_pos (by omega)]
    unfold ChipS.page
    rw [show i / 64 = j by omega,show i % 64 = i - ((64 * j:Nat):Int) by omega]
   ·simp only [if_neg h8]
    by_cases h9:i < ((64 * j:Nat):Int)
    ·rw [if_pos h9,if_pos (by omega)]
    ·rw [if_neg h9,if_neg (by omega)]
  rw [ec]
  exact this
 ·obtain rfl:j = 4:=by omega
  simp (disch:=omega) only [SX,plus]
  refine .some ⟨d0,rfl,rfl,?_⟩
  rw [arr_congr (f:=σ.page p) (g:=fun i => if i < ((64 * 4:Nat):Int) then σ.page p i else 0) fun i h5 h6 => (if_pos (by omega)).symm]
  exact hO3
end Go.Proofs.YtchonnaoojpdoaaGreat
set_option linter.unusedVariables false
set_option linter.unusedSectionVars false
set_option linter.unusedSimpArgs false
namespace Go.Proofs.YtchonnaoojpdoaaGreat
open Go.Mx
def flipC (s:ChunkS) (i b:Int):ChunkS:={ s with now:=upd s.now i (bitI .xor .u8 (s.now i) (shlI .u8 1 b)) }
def ChunkS.mark (s t:ChunkS):ChunkS:={ t with worst:=maxI s.worst t.damage }
def ChipS.flip (σ:ChipS) (p b:Int):ChipS:=σ.put p (b / 512) ((σ.at_ p (b / 512)).mark (flipC (σ.at_ p (b / 512)) (b / 8 % 64) (b % 8)))
theorem nand_Flip_is (k:Nat) (hk:64 < k) {m:Mem} {c:Nat} {σ:ChipS} (h:m[c]? = some (.live (chipC σ))) {p b:Int} (h0:0 ≤ p) (h1:p < 96) (h2:0 ≤ b) (h3:b < 2048) :
 nand_Chip_Flip k (some ⟨c,0,none⟩) p b m = some (.nilIface,wr m c (chipC (σ.flip p b))):=by
 unfold nand_Chip_Flip
 have hq:IntKind.wrap .i64 (Int.tdiv (IntKind.wrap .i64 (Int.tdiv b 8)) 64) = b / 512:=by simp (disch:=omega) only [SX,plus];omega
 have hp:isAt p (b / 512):=⟨h0,h1,by omega,by omega⟩
 rw [hq,nand_at_is,if_pos hp]
 have e1:=chip_ldNow h hp (i:=b / 8 % 64) (by omega) (by omega)
 have e2:=chip_stNow h hp (i:=b / 8 % 64) (by omega) (by omega) (bitI .xor .u8 ((σ.at_ p (b / 512)).now (b / 8 % 64)) (shlI .u8 1 (b % 8)))
 have g1:=wr_get (cs:=chipC (σ.put p (b / 512) (flipC (σ.at_ p (b / 512)) (b / 8 % 64) (b % 8)))) h
 have e3:=chip_ldWorst g1 hp
 have e4:=nand_damage_is k g1 hk hp
 have e5:=chip_stWorst g1 hp (maxI (σ.at_ p (b / 512)).worst (flipC (σ.at_ p (b / 512)) (b / 8 % 64) (b % 8)).damage)
 rw [put_at] at e3 e4
 rw [put_at,put_put,wr_wr] at e5
 have e3:ldInt .i64 (wr m c (chipC (σ.put p (b / 512) (flipC (σ.at_ p (b / 512)) (b / 8 % 64) (b % 8))))) ⟨c,chA p (b / 512) + 129,none⟩ = some (σ.at_ p (b / 512)).worst:=e3
 have e2:st m ⟨c,chA p (b / 512) + (b / 8 % 64).toNat,none⟩ (.int .u8 (bitI .xor .u8 ((σ.at_ p (b / 512)).now (b / 8 % 64)) (shlI .u8 1 (b % 8)))) = some (wr m c (chipC (σ.put p (b / 512) (flipC (σ.at_ p (b / 512)) (b / 8 % 64) (b % 8))))):=e2
 simp (disch:=omega) only [SX,plus,e1,e2,e3,e4,e5,beq_self_eq_true]
 rfl
theorem write_plain {σ:ChipS} {p q:Int} {f:Int → Int} (hp:isAt p q) (h1:(σ.b (p / 8)).before = 0) (h2:(σ.b (p / 8)).failed = false) :
 σ.write p q 64 f = if σ.off = true then (7,σ) else if (σ.at_ p q).is = true then (9,σ) else if σ.step.1 ≠ 0 then σ.step else (0,σ.step.2.put p q ⟨f,f,true,0⟩):=by
 unfold ChipS.write
 have hw:(σ.step.2.b (p / 8)).worn = σ.step.2.b (p / 8):=by
  unfold BlockS.worn;rw [step_b,h1];rfl
 rw [if_neg (not_not_intro hp),if_neg (by simp),hw,updB_self,step_b,h2]
 simp
end Go.Proofs.YtchonnaoojpdoaaGreat
set_option linter.unusedVariables false
set_option linter.unusedSectionVars false
set_option linter.unusedSimpArgs false
namespace Go.Proofs.YtchonnaoojpdoaaGreat
open Go.Mx
structure Ch (P:Nat → Prop) (m m':Mem):Prop where
 len:m.length ≤ m'.length
 get:∀ p,p < m.length → ¬ P p → m'[p]? = m[p]?
theorem Ch.refl (P:Nat → Prop) (m:Mem):Ch P m m:=⟨Nat.le_refl _,fun _ _ _ => rfl⟩
theorem Ch.trans {P:Nat → Prop} {m m' m'':Mem} (h:Ch P m m') (h':Ch P m' m''):Ch P m m'':=⟨Nat.le_trans h.len h'.len,fun p hp hn => by rw [h'.get p (Nat.lt_of_lt_of_le hp h.len) hn,h.get p hp hn]⟩
theorem Gr.ch {P:Nat → Prop} {m m':Mem} (h:Gr m m'):Ch P m m':=by
 obtain ⟨g,rfl⟩:=h
 exact ⟨by simp,fun p hp _ => get_app_lt hp⟩
theorem Ch.wr {P:Nat → Prop} {m m':Mem} (h:Ch P m m') {p:Nat} (hp:P p ∨ m.length ≤ p) (cs:List Value):Ch P m (wr m' p cs) :=
 ⟨by rw [wr_len];exact h.len,fun q hq hn => by
  rw [wr_ne (fun he => by subst he;rcases hp with h1 | h1;exact hn h1;omega)];exact h.get q hq hn⟩
theorem Ch.old {P:Nat → Prop} {m m':Mem} (h:Ch P m m') {p:Nat} {o:MObj} (hp:m[p]? = some o) (hn:¬ P p):m'[p]? = some o:=by rw [h.get p (get_lt hp) hn];exact hp
theorem Ch.more {P Q:Nat → Prop} {m m' m'':Mem} (h:Ch P m m') (h':Ch Q m' m'') (hq:∀ p,p < m.length → Q p → P p):Ch P m m'' :=
 ⟨Nat.le_trans h.len h'.len,fun p hp hn => by rw [h'.get p (Nat.lt_of_lt_of_le hp h.len) (fun h2 => hn (hq p hp h2)),h.get p hp hn]⟩
theorem Ch.gr {m m':Mem} (h:Ch (fun _ => False) m m'):Gr m m':=by
 refine ⟨m'.drop m.length,?_⟩
 apply List.ext_getElem?
 intro p
 by_cases hp:p < m.length
 ·rw [List.getElem?_append_left hp];exact h.get p hp id
 ·rw [List.getElem?_append_right (by omega),List.getElem?_drop];congr 1;omega
inductive CL | l | n (j:Int) | t (j:Int)
 deriving DecidableEq
inductive Lab | chip | blocks | of (i:Int) (c:CL)
 deriving DecidableEq
structure RG where
 q:Nat
 L:Int → Nat
 N:Int → Int → Nat × Bool
 T:Int → Int → Nat × Bool
 A:Int → Int
def budR (σ:ChipS):Int:=if σ.cut then σ.budget else -1
def rblk (L:Nat) (a:Int) (β:BlockS):List Value:=[.slice (some ⟨L,0,some 4⟩) 32 32,.int .i64 β.reads,.bool β.failed,.int .i64 a,.bool β.atErase]
def rch (n t:Nat × Bool) (c:ChunkS):List Value:=[.slice (rowA (some n)) 64 64,.slice (rowA (some t)) 64 64,.bool c.is,.int .i64 c.worst]
def rhead (q:Nat) (σ:ChipS):List Value:=[.slice (some ⟨q,0,some 5⟩) 12 12,.bool (!σ.off),.int .i64 (budR σ),.int .i64 σ.steps]
def rblks (g:RG) (σ:ChipS):List Value:=farr 12 fun i => rblk (g.L i) (g.A i) (σ.b i)
def rchs (g:RG) (i:Int) (β:BlockS):List Value:=farr 32 fun j => rch (g.N i j) (g.T i j) (β.ch j)
def AtOk (steps a b:Int):Prop:=(a + 1 = b ∨ a = b ∧ 9223372036854775807 ≤ b + steps) ∧ -1 ≤ a ∧ a < 9223372036854775808
structure RefX (m:Mem) (r:Nat) (lab:Nat → Option Lab) (g:RG) (σ:ChipS):Prop where
 chip:m[r]? = some (.live (rhead g.q σ))
 lr:lab r = some .chip
 blocks:m[g.q]? = some (.live (rblks g σ))
 lq:lab g.q = some .blocks
 ls:∀ i,0 ≤ i → i < 12 → m[g.L i]? = some (.live (rchs g i (σ.b i))) ∧ lab (g.L i) = some (.of i .l)
 ns:∀ i j,0 ≤ i → i < 12 → 0 ≤ j → j < 32 → m[(g.N i j).1]? = some (.live (arr .u8 64 ((σ.b i).ch j).now)) ∧ lab (g.N i j).1 = some (.of i (.n j))
 ts:∀ i j,0 ≤ i → i < 12 → 0 ≤ j → j < 32 → m[(g.T i j).1]? = some (.live (arr .u8 64 ((σ.b i).ch j).tru)) ∧ lab (g.T i j).1 = some (.of i (.t j))
 at_:∀ i,0 ≤ i → i < 12 → AtOk σ.steps (g.A i) (σ.b i).before
 lt:∀ p,lab p ≠ none → p < m.length
theorem rblks_len {g:RG} {σ:ChipS}:(rblks g σ).length = 60:=farr_len (z:=5) fun _ _ _ => rfl
theorem rblks_get {g:RG} {σ:ChipS} {x:Int} (h0:0 ≤ x) (h1:x < 12) {y:Nat} (hy:y < 5):(rblks g σ)[x.toNat * 5 + y]? = (rblk (g.L x) (g.A x) (σ.b x))[y]?:=by
 have:=farr_get (n:=12) (z:=5) (f:=fun i => rblk (g.L i) (g.A i) (σ.b i)) (fun _ _ _ => rfl) (i:=x.toNat) (by omega) hy
 rw [Int.toNat_of_nonneg h0] at this;exact this
theorem rblks_set {g:RG} {σ:ChipS} {x:Int} (h0:0 ≤ x) (h1:x < 12) {y:Nat} (hy:y < 5) {v:Value} {L':Nat} {a':Int} {β':BlockS} (h:(rblk (g.L x) (g.A x) (σ.b x)).set y v = rblk L' a' β') :
 (rblks g σ).set (x.toNat * 5 + y) v = rblks { g with L:=upd g.L x L',A:=upd g.A x a' } (σ.updB x β'):=by
 have:=farr_set (n:=12) (z:=5) (f:=fun i => rblk (g.L i) (g.A i) (σ.b i)) (fun _ _ _ => rfl) (i:=x.toNat) (by omega) hy v
 rw [Int.toNat_of_nonneg h0] at this
 unfold rblks
 rw [this]
 refine farr_congr fun i _ _ => ?_
 by_cases hi:i = x
 ·subst hi;simp [ChipS.updB,h]
 ·simp [ChipS.updB,upd,hi]
theorem rchs_get {g:RG} {i:Int} {β:BlockS} {x:Int} (h0:0 ≤ x) (h1:x < 32) {y:Nat} (hy:y < 4):(rchs g i β)[x.toNat * 4 + y]? = (rch (g.N i x) (g.T i x) (β.ch x))[y]?:=by
 have:=farr_get (n:=32) (z:=4) (f:=fun j => rch (g.N i j) (g.T i j) (β.ch j)) (fun _ _ _ => rfl) (i:=x.toNat) (by omega) hy
 rw [Int.toNat_of_nonneg h0] at this;exact this
theorem RefX.keep {m m':Mem} {r:Nat} {lab:Nat → Option Lab} {g:RG} {σ:ChipS} (h:RefX m r lab g σ) (hln:m.length ≤ m'.length) (hk:∀ p,lab p ≠ none → m'[p]? = m[p]?):RefX m' r lab g σ where
 lt p hp:=Nat.lt_of_lt_of_le (h.lt p hp) hln
 chip:=by rw [hk r (by rw [h.lr];simp)];exact h.chip
 lr:=h.lr
 blocks:=by rw [hk _ (by rw [h.lq];simp)];exact h.blocks
 lq:=h.lq
 ls i h0 h1:=by have:=h.ls i h0 h1;exact ⟨by rw [hk _ (by rw [this.2];simp)];exact this.1,this.2⟩
 ns i j h0 h1 h2 h3:=by have:=h.ns i j h0 h1 h2 h3;exact ⟨by rw [hk _ (by rw [this.2];simp)];exact this.1,this.2⟩
 ts i j h0 h1 h2 h3:=by have:=h.ts i j h0 h1 h2 h3;exact ⟨by rw [hk _ (by rw [this.2];simp)];exact this.1,this.2⟩
 at_:=h.at_
theorem RefX.grow {m m':Mem} {r:Nat} {lab:Nat → Option Lab} {g:RG} {σ:ChipS} (h:RefX m r lab g σ) (hg:Gr m m'):RefX m' r lab g σ:=by
 refine h.keep hg.len fun p hp => ?_
 obtain ⟨g,rfl⟩:=hg
 exact get_app_lt (h.lt p hp)
theorem AtOk.mono {s s' a b:Int} (h:AtOk s a b) (hs:s ≤ s'):AtOk s' a b:=by
 obtain ⟨h1,h2⟩:=h
 exact ⟨by omega,h2⟩
theorem RefX.head {m:Mem} {r:Nat} {lab:Nat → Option Lab} {g:RG} {σ τ:ChipS} (h:RefX m r lab g σ) (hb:τ.b = σ.b) (hs:σ.steps ≤ τ.steps):RefX (wr m r (rhead g.q τ)) r lab g τ:=by
 have hne:∀ p l,lab p = some l → l ≠ .chip → (wr m r (rhead g.q τ))[p]? = m[p]?:=fun p l hp hl => wr_ne (fun he => by subst he;rw [h.lr] at hp;cases hp;exact hl rfl)
 refine ⟨wr_get h.chip,h.lr,?_,h.lq,fun i h0 h1 => ?_,fun i j h0 h1 h2 h3 => ?_,fun i j h0 h1 h2 h3 => ?_,fun i h0 h1 => ?_,fun p hp => by rw [wr_len];exact h.lt p hp⟩
 ·rw [hne _ _ h.lq (by simp),h.blocks];unfold rblks;rw [hb]
 ·have:=h.ls i h0 h1
  rw [hb];exact ⟨by rw [hne _ _ this.2 (by simp)];exact this.1,this.2⟩
 ·have:=h.ns i j h0 h1 h2 h3
  rw [hb];exact ⟨by rw [hne _ _ this.2 (by simp)];exact this.1,this.2⟩
 ·have:=h.ts i j h0 h1 h2 h3
  rw [hb];exact ⟨by rw [hne _ _ this.2 (by simp)];exact this.1,this.2⟩
 ·rw [hb];exact (h.at_ i h0 h1).mono hs
theorem RefX.blk {m:Mem} {r:Nat} {lab:Nat → Option Lab} {g:RG} {σ:ChipS} (h:RefX m r lab g σ) {x:Int} {β':BlockS} {a':Int} (hc:β'.ch = (σ.b x).ch) (ha:0 ≤ x → x < 12 → AtOk σ.steps a' β'.before) :
 RefX (wr m g.q (rblks { g with A:=upd g.A x a' } (σ.updB x β'))) r lab { g with A:=upd g.A x a' } (σ.updB x β'):=by
 have hne:∀ p l,lab p = some l → l ≠ .blocks → (wr m g.q (rblks { g with A:=upd g.A x a' } (σ.updB x β')))[p]? = m[p]?:=fun p l hp hl => wr_ne (fun he => by subst he;rw [h.lq] at hp;cases hp;exact hl rfl)
 have hch:∀ i,((σ.updB x β').b i).ch = (σ.b i).ch:=fun i => by
  unfold ChipS.updB upd
  by_cases hi:i = x
  ·subst hi;simp [hc]
  ·simp [hi]
 refine ⟨?_,h.lr,wr_get h.blocks,h.lq,fun i h0 h1 => ?_,fun i j h0 h1 h2 h3 => ?_,fun i j h0 h1 h2 h3 => ?_,fun i h0 h1 => ?_,fun p hp => by rw [wr_len];exact h.lt p hp⟩
 ·rw [hne _ _ h.lr (by simp),h.chip];rfl
 ·have:=h.ls i h0 h1
  refine ⟨?_,this.2⟩
  show (wr m g.q _)[g.L i]? = _
  rw [hne _ _ this.2 (by simp),this.1]
  unfold rchs;rw [hch]
 ·have:=h.ns i j h0 h1 h2 h3
  rw [hch];exact ⟨by show (wr m g.q _)[(g.N i j).1]? = _;rw [hne _ _ this.2 (by simp)];exact this.1,this.2⟩
 ·have:=h.ts i j h0 h1 h2 h3
  rw [hch];exact ⟨by show (wr m g.q _)[(g.T i j).1]? = _;rw [hne _ _ this.2 (by simp)];exact this.1,this.2⟩
 ·show AtOk σ.steps (upd g.A x a' i) (upd σ.b x β' i).before
  by_cases hi:i = x
  ·subst hi;rw [upd_same,upd_same];exact ha h0 h1
  ·rw [upd_ne hi,upd_ne hi];exact h.at_ i h0 h1
theorem RefX.chunk {m m':Mem} {r:Nat} {lab lab':Nat → Option Lab} {g:RG} {σ:ChipS} (h:RefX m r lab g σ) {i j:Int} (i0:0 ≤ i) (i1:i < 12) (j0:0 ≤ j) (j1:j < 32) {n' t':Nat × Bool} {c':ChunkS} (hlt:∀ p,lab' p ≠ none → p < m'.length) (hl:∀ p,lab p ≠ none → lab' p = lab p)
 (hk:∀ p,lab p ≠ none → p ≠ g.L i → p ≠ (g.N i j).1 → m'[p]? = m[p]?) (hL:m'[g.L i]? = some (.live (farr 32 (upd (fun j => rch (g.N i j) (g.T i j) ((σ.b i).ch j)) j (rch n' t' c')))))
 (hn:m'[n'.1]? = some (.live (arr .u8 64 c'.now)) ∧ lab' n'.1 = some (.of i (.n j))) (ht:m'[t'.1]? = some (.live (arr .u8 64 c'.tru)) ∧ lab' t'.1 = some (.of i (.t j))) :
 RefX m' r lab' { g with N:=upd g.N i (upd (g.N i) j n'),T:=upd g.T i (upd (g.T i) j t') } (σ.updB i ((σ.b i).updC j c')):=by
 have dif:∀ p l,lab p = some l → l ≠ .of i .l → l ≠ .of i (.n j) → m'[p]? = m[p]? ∧ lab' p = some l:=fun p l hp h1 h2 => by
  have hp0:lab p ≠ none:=by rw [hp];simp
  refine ⟨hk p hp0 (fun he => ?_) (fun he => ?_),by rw [hl p hp0,hp]⟩
  ·subst he;rw [(h.ls i i0 i1).2] at hp;cases hp;exact h1 rfl
  ·subst he;rw [(h.ns i j i0 i1 j0 j1).2] at hp;cases hp;exact h2 rfl
 have sb:∀ x,x ≠ i → (σ.updB i ((σ.b i).updC j c')).b x = σ.b x:=fun x hx => upd_ne hx
 have si:(σ.updB i ((σ.b i).updC j c')).b i = (σ.b i).updC j c':=upd_same _ _ _
 refine ⟨?_,?_,?_,?_,fun x h0 h1 => ?_,fun x y h0 h1 h2 h3 => ?_,fun x y h0 h1 h2 h3 => ?_,fun x h0 h1 => ?_,hlt⟩
 ·rw [(dif _ _ h.lr (by simp) (by simp)).1,h.chip];rfl
 ·exact (dif _ _ h.lr (by simp) (by simp)).2
 ·rw [(dif _ _ h.lq (by simp) (by simp)).1,h.blocks]
  unfold rblks
  rw [farr_congr fun x _ _ => ?_]
  by_cases hx:x = i
  ·subst hx;rw [si];rfl
  ·rw [sb x hx]
 ·exact (dif _ _ h.lq (by simp) (by simp)).2
 ·by_cases hx:x = i
  ·subst hx
   refine ⟨?_,by rw [hl _ (by rw [(h.ls x h0 h1).2];simp)];exact (h.ls x h0 h1).2⟩
   rw [hL,si]
   unfold rchs
   rw [farr_congr fun y _ _ => ?_]
   simp only [upd_same,BlockS.updC]
   by_cases hy:y = j
   ·subst hy;simp
   ·simp [upd,hy]
  ·have:=h.ls x h0 h1
   have d:=dif _ _ this.2 (by simp;exact hx) (by simp)
   refine ⟨?_,d.2⟩
   rw [d.1,this.1,sb x hx]
   unfold rchs
   rw [farr_congr fun y _ _ => ?_]
   simp only [upd_ne hx]
 ·by_cases hx:x = i
  ·subst hx
   by_cases hy:y = j
   ·subst hy
    rw [si]
    simp only [upd_same,BlockS.updC]
    exact hn
   ·have:=h.ns x y h0 h1 h2 h3
    have d:=dif _ _ this.2 (by simp) (by simp;exact hy)
    rw [si]
    simp only [upd_same,BlockS.updC,upd_ne hy]
    exact ⟨by rw [d.1];exact this.1,d.2⟩
  ·have:=h.ns x y h0 h1 h2 h3
   have d:=dif _ _ this.2 (by simp) (by simp;intro h;exact absurd h hx)
   rw [sb x hx]
   simp only [upd_ne hx]
   exact ⟨by rw [d.1];exact this.1,d.2⟩
 ·by_cases hx:x = i
  ·subst hx
   by_cases hy:y = j
   ·subst hy
    rw [si]
    simp only [upd_same,BlockS.updC]
    exact ht
   ·have:=h.ts x y h0 h1 h2 h3
    have d:=dif _ _ this.2 (by simp) (by simp)
    rw [si]
    simp only [upd_same,BlockS.updC,upd_ne hy]
    exact ⟨by rw [d.1];exact this.1,d.2⟩
  ·have:=h.ts x y h0 h1 h2 h3
   have d:=dif _ _ this.2 (by simp) (by simp)
   rw [sb x hx]
   simp only [upd_ne hx]
   exact ⟨by rw [d.1];exact this.1,d.2⟩
 ·by_cases hx:x = i
  ·subst hx;rw [si];exact h.at_ x h0 h1
  ·rw [sb x hx];exact h.at_ x h0 h1
theorem RefX.block {m m':Mem} {r:Nat} {lab lab':Nat → Option Lab} {g:RG} {σ:ChipS} (h:RefX m r lab g σ) {i:Int} (i0:0 ≤ i) (i1:i < 12) {L':Nat} {N' T':Int → Nat × Bool} {β':BlockS} (hlt:∀ p,lab' p ≠ none → p < m'.length) (hl:∀ p,lab p ≠ none → lab' p = lab p)
 (hk:∀ p,lab p ≠ none → p ≠ g.q → m'[p]? = m[p]?) (hq:m'[g.q]? = some (.live (rblks { g with L:=upd g.L i L' } (σ.updB i β')))) (hat:AtOk σ.steps (g.A i) β'.before)
 (hL:m'[L']? = some (.live (farr 32 fun j => rch (N' j) (T' j) (β'.ch j))) ∧ lab' L' = some (.of i .l))
 (hn:∀ j,0 ≤ j → j < 32 → m'[(N' j).1]? = some (.live (arr .u8 64 (β'.ch j).now)) ∧ lab' (N' j).1 = some (.of i (.n j)))
 (ht:∀ j,0 ≤ j → j < 32 → m'[(T' j).1]? = some (.live (arr .u8 64 (β'.ch j).tru)) ∧ lab' (T' j).1 = some (.of i (.t j))) :
 RefX m' r lab' { g with L:=upd g.L i L',N:=upd g.N i N',T:=upd g.T i T' } (σ.updB i β'):=by
 have dif:∀ p l,lab p = some l → l ≠ .blocks → m'[p]? = m[p]? ∧ lab' p = some l:=fun p l hp h1 => by
  have hp0:lab p ≠ none:=by rw [hp];simp
  refine ⟨hk p hp0 (fun he => ?_),by rw [hl p hp0,hp]⟩
  subst he;rw [h.lq] at hp;cases hp;exact h1 rfl
 have sb:∀ x,x ≠ i → (σ.updB i β').b x = σ.b x:=fun x hx => upd_ne hx
 have si:(σ.updB i β').b i = β':=upd_same _ _ _
 refine ⟨?_,?_,hq,?_,fun x h0 h1 => ?_,fun x y h0 h1 h2 h3 => ?_,fun x y h0 h1 h2 h3 => ?_,fun x h0 h1 => ?_,hlt⟩
 ·rw [(dif _ _ h.lr (by simp)).1,h.chip];rfl
 ·exact (dif _ _ h.lr (by simp)).2
 ·rw [hl _ (by rw [h.lq];simp)];exact h.lq
 ·by_cases hx:x = i
  ·subst hx
   simp only [upd_same,si]
   refine ⟨?_,hL.2⟩
   rw [hL.1]
   unfold rchs
   simp only [upd_same]
  ·have:=h.ls x h0 h1
   have d:=dif _ _ this.2 (by simp)
   simp only [upd_ne hx,sb x hx]
   refine ⟨?_,d.2⟩
   rw [d.1,this.1]
   unfold rchs
   simp only [upd_ne hx]
 ·by_cases hx:x = i
  ·subst hx;simp only [upd_same,si];exact hn y h2 h3
  ·have:=h.ns x y h0 h1 h2 h3
   have d:=dif _ _ this.2 (by simp)
   simp only [upd_ne hx,sb x hx]
   exact ⟨by rw [d.1];exact this.1,d.2⟩
 ·by_cases hx:x = i
  ·subst hx;simp only [upd_same,si];exact ht y h2 h3
  ·have:=h.ts x y h0 h1 h2 h3
   have d:=dif _ _ this.2 (by simp)
   simp only [upd_ne hx,sb x hx]
   exact ⟨by rw [d.1];exact this.1,d.2⟩
 ·by_cases hx:x = i
  ·subst hx;rw [si];exact hat
  ·rw [sb x hx];exact h.at_ x h0 h1
section
variable {m:Mem} {r:Nat} {lab:Nat → Option Lab} {g:RG} {σ:ChipS} (h:RefX m r lab g σ)
include h
theorem RefX.ldB:ldSl m ⟨r,0,none⟩ = some ⟨some ⟨g.q,0,some 5⟩,12,12⟩:=ldSl_of h.chip rfl
theorem RefX.ldOn:ldBool m ⟨r,1,none⟩ = some (!σ.off):=ldBool_of h.chip rfl
theorem RefX.ldBud:ldInt .i64 m ⟨r,2,none⟩ = some (budR σ):=ldInt_of h.chip rfl
theorem RefX.ldSteps:ldInt .i64 m ⟨r,3,none⟩ = some σ.steps:=ldInt_of h.chip rfl
section
variable {x:Int} (h0:0 ≤ x) (h1:x < 12)
include h0 h1
theorem RefX.ldL:ldSl m ⟨g.q,x.toNat * 5,some 5⟩ = some ⟨some ⟨g.L x,0,some 4⟩,32,32⟩:=ldSl_of h.blocks (rblks_get (y:=0) h0 h1 (by omega))
theorem RefX.ldReads:ldInt .i64 m ⟨g.q,x.toNat * 5 + 1,some 5⟩ = some (σ.b x).reads:=ldInt_of h.blocks (rblks_get h0 h1 (by omega))
theorem RefX.ldFailed:ldBool m ⟨g.q,x.toNat * 5 + 2,some 5⟩ = some (σ.b x).failed:=ldBool_of h.blocks (rblks_get h0 h1 (by omega))
theorem RefX.ldAt:ldInt .i64 m ⟨g.q,x.toNat * 5 + 3,some 5⟩ = some (g.A x):=ldInt_of h.blocks (rblks_get h0 h1 (by omega))
theorem RefX.ldAtErase:ldBool m ⟨g.q,x.toNat * 5 + 4,some 5⟩ = some (σ.b x).atErase:=ldBool_of h.blocks (rblks_get h0 h1 (by omega))
theorem RefX.stB {y:Nat} (hy:y < 5) {v:Value} {L':Nat} {a':Int} {β':BlockS} (e:(rblk (g.L x) (g.A x) (σ.b x)).set y v = rblk L' a' β') :
 st m ⟨g.q,x.toNat * 5 + y,some 5⟩ v = some (wr m g.q (rblks { g with L:=upd g.L x L',A:=upd g.A x a' } (σ.updB x β'))):=by
 rw [st_wr h.blocks (by rw [rblks_len];omega),rblks_set h0 h1 hy e]
end
section
variable {p k:Int} (hp:isAt p k)
include hp
theorem RefX.ldNow:ldSl m ⟨g.L (p / 8),(p % 8 * 4 + k).toNat * 4,some 4⟩ = some ⟨rowA (some (g.N (p / 8) (p % 8 * 4 + k))),64,64⟩:=by
 obtain ⟨h0,h1,h2,h3⟩:=hp
 exact ldSl_of (h.ls (p / 8) (by omega) (by omega)).1 (rchs_get (y:=0) (by omega) (by omega) (by omega))
theorem RefX.ldIs:ldBool m ⟨g.L (p / 8),(p % 8 * 4 + k).toNat * 4 + 2,some 4⟩ = some (σ.at_ p k).is:=by
 obtain ⟨h0,h1,h2,h3⟩:=hp
 exact ldBool_of (h.ls (p / 8) (by omega) (by omega)).1 (rchs_get (by omega) (by omega) (by omega))
theorem RefX.now_:m[(g.N (p / 8) (p % 8 * 4 + k)).1]? = some (.live (arr .u8 64 (σ.at_ p k).now)):=by
 obtain ⟨h0,h1,h2,h3⟩:=hp
 exact (h.ns (p / 8) (p % 8 * 4 + k) (by omega) (by omega) (by omega) (by omega)).1
theorem RefX.tru_:m[(g.T (p / 8) (p % 8 * 4 + k)).1]? = some (.live (arr .u8 64 (σ.at_ p k).tru)):=by
 obtain ⟨h0,h1,h2,h3⟩:=hp
 exact (h.ts (p / 8) (p % 8 * 4 + k) (by omega) (by omega) (by omega) (by omega)).1
theorem refChunk_is (kk:Nat):patinaref05_Chip_chunk kk (some ⟨r,0,none⟩) p k m = some (some ⟨g.L (p / 8),(p % 8 * 4 + k).toNat * 4,some 4⟩,m):=by
 have ⟨h0,h1,h2,h3⟩:=hp
 unfold patinaref05_Chip_chunk
 have i1:inRange (p / 8) 12 = true:=inRange_yes (by omega) (by omega)
 have i2:inRange (p % 8 * 4 + k) 32 = true:=inRange_yes (by omega) (by omega)
 simp (disch:=omega) only [SX,plus,h.ldB,i1,h.ldL (show 0 ≤ p / 8 by omega) (show p / 8 < 12 by omega),i2]
end
end
theorem rowA_eq (x:Nat × Bool):rowA (some x) = some ⟨x.1,0,if x.2 then some 1 else none⟩:=by obtain ⟨D,a⟩:=x;cases a <;> rfl
theorem refIsPage_is (k:Nat) (p:Int) (m:Mem):patinaref05_isPage k p m = some (decide (0 ≤ p ∧ p < 96),m):=by
 unfold patinaref05_isPage
 by_cases h0:p ≥ 0
 ·rw [decide_eq_true h0,cond_true];congr 2;simp;omega
 ·rw [decide_eq_false h0,cond_false];congr 2;simp;omega
theorem refIsBlock_is (k:Nat) (p:Int) (m:Mem):patinaref05_isBlock k p m = some (decide (0 ≤ p ∧ p < 12),m):=by
 unfold patinaref05_isBlock
 by_cases h0:p ≥ 0
 ·rw [decide_eq_true h0,cond_true];congr 2;simp;omega
 ·rw [decide_eq_false h0,cond_false];congr 2;simp;omega
end Go.Proofs.YtchonnaoojpdoaaGreat
set_option linter.unusedVariables false
set_option linter.unusedSectionVars false
set_option linter.unusedSimpArgs false
namespace Go.Proofs.YtchonnaoojpdoaaGreat
open Go.Mx
def Byt (f:Int → Int):Prop:=∃ w:Nat → GF,∀ i:Int,0 ≤ i → f i = byI w i
theorem Byt.const {v:Int} (h0:0 ≤ v) (h1:v < 256):Byt fun _ => v:=⟨fun _ => GF.of v.toNat,fun i _ => by show v = _;unfold byI;rw [GF.v_of (by omega)];omega⟩
theorem Byt.upd {f:Int → Int} (h:Byt f) {x v:Int} (hx:0 ≤ x) (h0:0 ≤ v) (h1:v < 256):Byt (upd f x v):=by
 obtain ⟨w,hw⟩:=h
 refine ⟨put w x.toNat (GF.of v.toNat),fun i hi => ?_⟩
 unfold byI put Mx.upd
 by_cases he:i = x
 ·subst he;rw [if_pos rfl,if_pos rfl,GF.v_of (by omega)];omega
 ·rw [if_neg he,if_neg (by omega),hw i hi];rfl
theorem Byt.ofW (w:Nat → GF):Byt (byI w):=⟨w,fun _ _ => rfl⟩
theorem xor_byte (a b:Int):0 ≤ bitI .xor .u8 a b ∧ bitI .xor .u8 a b < 256:=by
 unfold bitI
 simp only [IntKind.wrap,IntKind.bits,IntKind.signed,Bool.false_and,Bool.false_eq_true,if_false]
 omega
structure Wf (n:Nat) (σ:ChipS):Prop where
 steps:0 ≤ σ.steps ∧ σ.steps ≤ n
 bud:0 ≤ σ.budget ∧ σ.budget < 9223372036854775808
 rd:∀ x,0 ≤ (σ.b x).reads ∧ (σ.b x).reads ≤ n
 bf:∀ x,0 ≤ (σ.b x).before ∧ (σ.b x).before < 9223372036854775808
 by_:∀ x j,Byt ((σ.b x).ch j).now ∧ Byt ((σ.b x).ch j).tru
 ws:∀ x j,((σ.b x).ch j).damage ≤ ((σ.b x).ch j).worst ∧ ((σ.b x).ch j).worst ≤ 64
structure Lx (m m':Mem) (lab lab':Nat → Option Lab):Prop where
 ch:Ch (fun p => lab p ≠ none) m m'
 same:∀ p,lab p ≠ none → lab' p = lab p
 new:∀ p,lab' p ≠ none → lab p ≠ none ∨ m.length ≤ p
theorem Lx.refl (m:Mem) (lab:Nat → Option Lab):Lx m m lab lab:=⟨.refl _ _,fun _ _ => rfl,fun _ h => .inl h⟩
theorem Lx.of {m m':Mem} {lab:Nat → Option Lab} (h:Ch (fun p => lab p ≠ none) m m'):Lx m m' lab lab:=⟨h,fun _ _ => rfl,fun _ h => .inl h⟩
theorem Lx.trans {m m' m'':Mem} {lab lab' lab'':Nat → Option Lab} (h:Lx m m' lab lab') (h':Lx m' m'' lab' lab''):Lx m m'' lab lab'' :=
 ⟨h.ch.more h'.ch fun p hp hl => by rcases h.new p hl with h1 | h1;· exact h1
                                    ·omega,
  fun p hp => by rw [h'.same p (by rw [h.same p hp];exact hp),h.same p hp],
  fun p hp => by rcases h'.new p hp with h1 | h1
                 ·exact h.new p h1
                 ·right;have:=h.ch.len;omega⟩
section
variable {m:Mem} {r:Nat} {lab:Nat → Option Lab} {g:RG} {σ:ChipS} (h:RefX m r lab g σ)
include h
theorem RefX.chHead (cs:List Value):Ch (fun p => lab p ≠ none) m (wr m r cs):=(Ch.refl _ m).wr (.inl (by rw [h.lr];simp)) cs
theorem RefX.chBlk (cs:List Value):Ch (fun p => lab p ≠ none) m (wr m g.q cs):=(Ch.refl _ m).wr (.inl (by rw [h.lq];simp)) cs
theorem RefX.setB {x:Int} (h0:0 ≤ x) (h1:x < 12) {y:Nat} (hy:y < 5) {v:Value} (a':Int) (β':BlockS) (e:(rblk (g.L x) (g.A x) (σ.b x)).set y v = rblk (g.L x) a' β') (hc:β'.ch = (σ.b x).ch) (ha:AtOk σ.steps a' β'.before) :
 ∃ m',st m ⟨g.q,x.toNat * 5 + y,some 5⟩ v = some m' ∧ RefX m' r lab { g with A:=upd g.A x a' } (σ.updB x β') ∧ Ch (fun p => lab p ≠ none) m m':=by
 refine ⟨_,h.stB h0 h1 hy e,?_,h.chBlk _⟩
 rw [upd_self]
 exact h.blk hc fun _ _ => ha
theorem refStep_is (k:Nat) (hs:0 ≤ σ.steps ∧ σ.steps < 4611686018427387904) (hb:0 ≤ σ.budget ∧ σ.budget < 9223372036854775808) :
 patinaref05_Chip_step k (some ⟨r,0,none⟩) m = some (decide (σ.step.1 = 0),wr m r (rhead g.q σ.step.2)) ∧ RefX (wr m r (rhead g.q σ.step.2)) r lab g σ.step.2:=by
 refine ⟨?_,h.head (step_b σ) ?_⟩
 ·unfold patinaref05_Chip_step patinaref05_Chip_step_j1
  by_cases hc:σ.cut = true
  ·have hbr:budR σ = σ.budget:=by unfold budR;rw [if_pos hc]
   by_cases h0:σ.budget = 0
   ·have e1:σ.step = (7,{ σ with off:=true }):=by unfold ChipS.step;rw [if_pos hc,if_pos h0]
    have e2:=st_wr (sp:=none) (off:=1) (v:=.bool false) h.chip (by simp [rhead])
    have e3:(rhead g.q σ).set 1 (.bool false) = rhead g.q { σ with off:=true }:=rfl
    rw [e3] at e2
    have z:(σ.budget == 0) = true:=by simp [h0]
    simp (disch:=omega) only [SX,plus,h.ldBud,hbr,z,e2,e1]
    try rfl
   ·have e1:σ.step = (0,{ σ with budget:=σ.budget - 1,steps:=σ.steps + 1 }):=by unfold ChipS.step;rw [if_pos hc,if_neg h0]
    have z:(σ.budget == 0) = false:=by simp [h0]
    have e2:=st_wr (sp:=none) (off:=2) (v:=.int .i64 (σ.budget - 1)) h.chip (by simp [rhead])
    have e3:(rhead g.q σ).set 2 (.int .i64 (σ.budget - 1)) = rhead g.q { σ with budget:=σ.budget - 1 }:=by
     unfold rhead budR;simp [hc]
    rw [e3] at e2
    have g1:=wr_get (cs:=rhead g.q { σ with budget:=σ.budget - 1 }) h.chip
    have e4:ldInt .i64 (wr m r (rhead g.q { σ with budget:=σ.budget - 1 })) ⟨r,3,none⟩ = some σ.steps:=ldInt_of g1 rfl
    have e5:=st_wr (sp:=none) (off:=3) (v:=.int .i64 (σ.steps + 1)) g1 (by simp [rhead])
    have e6:(rhead g.q { σ with budget:=σ.budget - 1 }).set 3 (.int .i64 (σ.steps + 1)) = rhead g.q { σ with budget:=σ.budget - 1,steps:=σ.steps + 1 }:=rfl
    rw [e6] at e5
    simp (disch:=omega) only [SX,plus,h.ldBud,hbr,z,e2,e4,e5,e1]
    simp
  ·have hbr:budR σ = -1:=by unfold budR;rw [if_neg hc]
   have e1:σ.step = (0,{ σ with steps:=σ.steps + 1 }):=by unfold ChipS.step;rw [if_neg hc]
   have z:((-1:Int) == 0) = false:=rfl
   have z2:decide ((-1:Int) > 0) = false:=rfl
   have e5:=st_wr (sp:=none) (off:=3) (v:=.int .i64 (σ.steps + 1)) h.chip (by simp [rhead])
   have e6:(rhead g.q σ).set 3 (.int .i64 (σ.steps + 1)) = rhead g.q { σ with steps:=σ.steps + 1 }:=rfl
   rw [e6] at e5
   simp (disch:=omega) only [SX,plus,h.ldBud,hbr,z,z2,h.ldSteps,e5,e1]
   simp
 ·unfold ChipS.step
  split
  ·split
   ·exact Int.le_refl _
   ·simp;omega
  ·simp;omega
theorem refCut_is (k:Nat) (n:Int):∃ m',patinaref05_Chip_Cut k (some ⟨r,0,none⟩) n m = some (if n < 0 then 1 else 0,m') ∧ RefX m' r lab g (if n < 0 then σ else if σ.off = true then σ else { σ with cut:=true,budget:=n }) ∧ Ch (fun p => lab p ≠ none) m m':=by
 unfold patinaref05_Chip_Cut patinaref05_Chip_Cut_j1
 by_cases hn:n < 0
 ·refine ⟨m,?_,?_,.refl _ _⟩
  ·simp (disch:=omega) only [SX,plus,if_pos hn]
  ·rw [if_pos hn];exact h
 ·cases ho:σ.off with
  | true =>
   refine ⟨m,?_,?_,.refl _ _⟩
   ·simp (disch:=omega) only [SX,plus,h.ldOn,ho,if_neg hn]
   ·rw [if_neg hn,if_pos rfl];exact h
  | false =>
   have e2:=st_wr (sp:=none) (off:=2) (v:=.int .i64 n) h.chip (by simp [rhead])
   have e3:(rhead g.q σ).set 2 (.int .i64 n) = rhead g.q { σ with cut:=true,budget:=n }:=rfl
   rw [e3] at e2
   refine ⟨wr m r (rhead g.q { σ with cut:=true,budget:=n }),?_,?_,h.chHead _⟩
   ·simp (disch:=omega) only [SX,plus,h.ldOn,ho,e2,if_neg hn]
   ·rw [if_neg hn,if_neg (by simp)];have z:=h.head (τ:={ σ with cut:=true,budget:=n }) rfl (Int.le_refl _);simp only [ho] at z ⊢;exact z
theorem refAgain_is (k:Nat):∃ m',patinaref05_Chip_Again k (some ⟨r,0,none⟩) m = some m' ∧ RefX m' r lab g { σ with off:=false,cut:=false,budget:=0 } ∧ Ch (fun p => lab p ≠ none) m m':=by
 unfold patinaref05_Chip_Again
 have e1:=st_wr (sp:=none) (off:=1) (v:=.bool true) h.chip (by simp [rhead])
 have e2:=st_wr (sp:=none) (off:=2) (v:=.int .i64 (-1)) (wr_get (cs:=(rhead g.q σ).set 1 (.bool true)) h.chip) (by simp [rhead])
 have e3:((rhead g.q σ).set 1 (.bool true)).set 2 (.int .i64 (-1)) = rhead g.q { σ with off:=false,cut:=false,budget:=0 }:=rfl
 rw [e3,wr_wr] at e2
 refine ⟨wr m r (rhead g.q { σ with off:=false,cut:=false,budget:=0 }),?_,h.head (τ:={ σ with off:=false,cut:=false,budget:=0 }) rfl (Int.le_refl _),h.chHead _⟩
 simp (disch:=omega) only [SX,plus,e1,e2]
theorem refFailErase_is (k:Nat) (x:Int):∃ m' g',patinaref05_Chip_FailErase k (some ⟨r,0,none⟩) x m = some (if 0 ≤ x ∧ x < 12 then 0 else 1,m') ∧ RefX m' r lab g' (if 0 ≤ x ∧ x < 12 then σ.updB x { σ.b x with atErase:=true } else σ) ∧ Ch (fun p => lab p ≠ none) m m':=by
 unfold patinaref05_Chip_FailErase
 rw [refIsBlock_is]
 by_cases hx:0 ≤ x ∧ x < 12
 ·obtain ⟨m',e1,e2,e3⟩:=h.setB hx.1 hx.2 (y:=4) (by omega) (v:=.bool true) (g.A x) { σ.b x with atErase:=true } rfl rfl (h.at_ x hx.1 hx.2)
  have i1:inRange x 12 = true:=inRange_yes hx.1 hx.2
  refine ⟨m',_,?_,by rw [if_pos hx];exact e2,e3⟩
  simp (disch:=omega) only [SX,plus,decide_eq_true hx,h.ldB,i1,e1,if_pos hx]
 ·refine ⟨m,g,?_,by rw [if_neg hx];exact h,.refl _ _⟩
  simp (disch:=omega) only [SX,plus,decide_eq_false hx,if_neg hx]
theorem refFailProgram_is (k:Nat) (x n:Int) (hn:n < 9223372036854775808) (hs:0 ≤ σ.steps):∃ m' g',patinaref05_Chip_FailProgram k (some ⟨r,0,none⟩) x n m = some (if 0 ≤ x ∧ x < 12 ∧ 0 ≤ n then 0 else 1,m') ∧
 RefX m' r lab g' (if 0 ≤ x ∧ x < 12 ∧ 0 ≤ n then σ.updB x { σ.b x with before:=(if n ≤ 9223372036854775806 then n else 9223372036854775806) + 1 } else σ) ∧ Ch (fun p => lab p ≠ none) m m':=by
 unfold patinaref05_Chip_FailProgram
 rw [refIsBlock_is]
 by_cases hx:0 ≤ x ∧ x < 12
 ·by_cases h0:n < 0
  ·have hh:¬ (0 ≤ x ∧ x < 12 ∧ 0 ≤ n):=by omega
   refine ⟨m,g,?_,by rw [if_neg hh];exact h,.refl _ _⟩
   simp (disch:=omega) only [SX,plus,decide_eq_true hx,if_neg hh]
  ·have hh:0 ≤ x ∧ x < 12 ∧ 0 ≤ n:=by omega
   obtain ⟨m',e1,e2,e3⟩:=h.setB hx.1 hx.2 (y:=3) (by omega) (v:=.int .i64 n) n { σ.b x with before:=(if n ≤ 9223372036854775806 then n else 9223372036854775806) + 1 } rfl rfl (by
    refine ⟨?_,by omega,by omega⟩
    simp only
    split
    ·left;rfl
    ·right;constructor <;> omega)
   have i1:inRange x 12 = true:=inRange_yes hx.1 hx.2
   refine ⟨m',_,?_,by rw [if_pos hh];exact e2,e3⟩
   simp (disch:=omega) only [SX,plus,decide_eq_true hx,h.ldB,i1,e1,if_pos hh]
 ·have hh:¬ (0 ≤ x ∧ x < 12 ∧ 0 ≤ n):=by omega
  refine ⟨m,g,?_,by rw [if_neg hh];exact h,.refl _ _⟩
  simp (disch:=omega) only [SX,plus,decide_eq_false hx,if_neg hh]
theorem refReads_is (k:Nat) (x:Int):patinaref05_Chip_Reads k (some ⟨r,0,none⟩) x m = some (if 0 ≤ x ∧ x < 12 then ((σ.b x).reads,0,m) else (0,1,m)):=by
 unfold patinaref05_Chip_Reads
 rw [refIsBlock_is]
 by_cases hx:0 ≤ x ∧ x < 12
 ·have i1:inRange x 12 = true:=inRange_yes hx.1 hx.2
  simp (disch:=omega) only [SX,plus,decide_eq_true hx,h.ldB,i1,h.ldReads hx.1 hx.2,if_pos hx]
 ·simp (disch:=omega) only [SX,plus,decide_eq_false hx,if_neg hx]
theorem refFailed_is (k:Nat) (x:Int):patinaref05_Chip_Failed k (some ⟨r,0,none⟩) x m = some (if 0 ≤ x ∧ x < 12 then ((σ.b x).failed,0,m) else (false,1,m)):=by
 unfold patinaref05_Chip_Failed
 rw [refIsBlock_is]
 by_cases hx:0 ≤ x ∧ x < 12
 ·have i1:inRange x 12 = true:=inRange_yes hx.1 hx.2
  simp (disch:=omega) only [SX,plus,decide_eq_true hx,h.ldB,i1,h.ldFailed hx.1 hx.2,if_pos hx]
 ·simp (disch:=omega) only [SX,plus,decide_eq_false hx,if_neg hx]
omit h in
theorem refDmg_ok (k:Nat) (hk:64 < k) {d o:Nat} {sp:Option Nat} {n t:Nat × Bool} {f u:Int → Int} (l0:ldSl m ⟨d,o,sp⟩ = some ⟨rowA (some n),64,64⟩) (l1:ldSl m ⟨d,o + 1,sp⟩ = some ⟨rowA (some t),64,64⟩)
 (hn:m[n.1]? = some (.live (arr .u8 64 f))) (ht:m[t.1]? = some (.live (arr .u8 64 u))):patinaref05_Chunk_damage k (some ⟨d,o,sp⟩) m = some (cntNe f u 64,m):=by
 have key:Ok (patinaref05_Chunk_damage k (some ⟨d,o,sp⟩) m) fun r => r = (cntNe f u 64,m):=by
  unfold patinaref05_Chunk_damage
  refine patinaref05_Chunk_damage_l0_rule k _ (fun r x0 x3 x4 M => (some ⟨d,o,sp⟩:Option Addr) = x0 ∧ m = M ∧ ∃ j:Nat,x4 = j ∧ j + r = 64 ∧ cntNe f u j = x3) ?_ k 64 _ _ _ _ hk ⟨rfl,rfl,0,rfl,rfl,rfl⟩
  rintro r nx _ _ _ _ ⟨rfl,rfl,j,rfl,hr,rfl⟩ hnx
  unfold patinaref05_Chunk_damage_l0_b
  by_cases hj:(j:Int) < 64
  ·rw [rowA_eq] at l0 l1
   have e1:=arr_ldn (sp:=if n.2 then some 1 else none) hn (i:=j) (by omega)
   have e2:=arr_ldn (sp:=if t.2 then some 1 else none) ht (i:=j) (by omega)
   have hc:=cntNe_le f u j
   have i1:inRange (j:Int) 64 = true:=inRange_yes (by omega) (by omega)
   have nx':=hnx (r - 1) (some ⟨d,o,sp⟩) (cntNe f u (j + 1)) (j + 1) m (by omega) ⟨rfl,rfl,j + 1,by omega,by omega,rfl⟩
   rw [cntNe_succ] at nx'
   by_cases he:f j = u j
   ·have hb:(f j != u j) = false:=bneI_no he
    rw [if_neg (fun h => h he),Int.add_zero] at nx'
    simp (disch:=omega) only [SX,plus,l0,l1,i1,e1,e2,hb,patinaref05_Chunk_damage_j1]
    exact nx'
   ·have hb:(f j != u j) = true:=bneI_yes he
    rw [if_pos he] at nx'
    simp (disch:=omega) only [SX,plus,l0,l1,i1,e1,e2,hb,patinaref05_Chunk_damage_j1]
    exact nx'
  ·obtain rfl:j = 64:=by omega
   simp (disch:=omega) only [SX,plus]
   exact .some rfl
 obtain ⟨r,h1,rfl⟩:=key
 exact h1
end
end Go.Proofs.YtchonnaoojpdoaaGreat
set_option linter.unusedVariables false
set_option linter.unusedSectionVars false
set_option linter.unusedSimpArgs false
namespace Go.Proofs.YtchonnaoojpdoaaGreat
open Go.Mx
section
variable {m:Mem} {r:Nat} {lab:Nat → Option Lab} {g:RG} {σ:ChipS} (h:RefX m r lab g σ)
include h
theorem refPage_ok (k:Nat) (hk:64 < k) {p:Int} (h0:0 ≤ p) (h1:p < 96) {W:Nat → GF} (hW:∀ (q i:Nat),q < 4 → i < 64 → (σ.at_ p q).now i = ((W (q * 64 + i)).v:Int)) :
 Ok (patinaref05_Chip_Page k (some ⟨r,0,none⟩) p m) fun x => ∃ d,x.1 = ⟨some ⟨d,0,some 1⟩,256,256⟩ ∧ Gr m x.2 ∧ m.length ≤ d ∧ x.2[d]? = some (.live (bys 256 W)):=by
 unfold patinaref05_Chip_Page
 refine patinaref05_Chip_Page_l0_rule k _ (fun rr x0 x1 xa xn xc x6 M => (some ⟨r,0,none⟩:Option Addr) = x0 ∧ p = x1 ∧ ∃ j:Nat,x6 = j ∧ j + rr = 4 ∧ j * 64 = xn ∧ j * 64 = xc ∧ Ab m M xa (j * 64) W) ?_ k 4 _ _ _ _ _ _ _ (by omega)
  ⟨rfl,rfl,0,rfl,rfl,rfl,rfl,.nil _ _⟩
 rintro rr nx _ _ xa _ _ _ M ⟨rfl,rfl,j,rfl,hr,rfl,rfl,hA⟩ hnx
 unfold patinaref05_Chip_Page_l0_b
 by_cases hj:(j:Int) < 4
 ·have hp:isAt p j:=⟨h0,h1,by omega,by omega⟩
  have hM:RefX M r lab g σ:=h.grow hA.1
  have hb:arr .u8 64 (σ.at_ p j).now = bys 64 fun i => W (j * 64 + i):=arr_congr fun i i0 i1 => by
   have:=hW j i.toNat (by omega) (by omega)
   rw [Int.toNat_of_nonneg i0] at this
   rw [this];rfl
  have hn:=hM.now_ hp
  rw [hb] at hn
  have e1:rdSl M (rowA (some (g.N (p / 8) (p % 8 * 4 + j)))) 64 1 = some (bys 64 fun i => W (j * 64 + i)):=by rw [rowA_eq];exact Src.of hn
  obtain ⟨a',m',e2,hA'⟩:=hA.app (u:=fun i => W (j * 64 + i)) (l:=64) (by omega) (by unfold most;omega)
  simp (disch:=omega) only [SX,plus,decide_eq_true hj,refChunk_is hM hp,hM.ldNow hp,e1,e2]
  refine hnx (rr - 1) _ _ _ _ _ _ _ (by omega) ⟨rfl,rfl,j + 1,by omega,by omega,by omega,by omega,?_⟩
  rw [show (j + 1) * 64 = j * 64 + 64 by omega]
  refine hA'.congr fun i hi => ?_
  by_cases h5:i < j * 64
  ·rw [if_pos h5]
  ·rw [if_neg h5,show j * 64 + (i - j * 64) = i by omega]
 ·obtain rfl:j = 4:=by omega
  simp (disch:=omega) only [SX,plus]
  rcases hA with ⟨hg,⟨_,h5⟩ | ⟨d,rfl,hd,h5⟩⟩
  ·omega
  ·exact .some ⟨d,rfl,hg,hd,h5⟩
theorem refRead_no (k:Nat) {p:Int} (hp:¬ (0 ≤ p ∧ p < 96)):patinaref05_Chip_Read k (some ⟨r,0,none⟩) p m = some (⟨none,0,0⟩,1,m):=by
 unfold patinaref05_Chip_Read
 rw [refIsPage_is]
 simp (disch:=omega) only [SX,plus,decide_eq_false hp]
theorem refRead_off (k:Nat) {p:Int} (hp:0 ≤ p ∧ p < 96) (ho:σ.off = true):patinaref05_Chip_Read k (some ⟨r,0,none⟩) p m = some (⟨none,0,0⟩,7,m):=by
 unfold patinaref05_Chip_Read
 rw [refIsPage_is]
 simp (disch:=omega) only [SX,plus,decide_eq_true hp,h.ldOn,ho]
theorem refRead_ok (k:Nat) (hk:64 < k) {p:Int} (hp:0 ≤ p ∧ p < 96) (ho:σ.off = false) (hr:0 ≤ (σ.b (p / 8)).reads ∧ (σ.b (p / 8)).reads < 4611686018427387904) {W:Nat → GF} (hW:∀ (q i:Nat),q < 4 → i < 64 → (σ.at_ p q).now i = ((W (q * 64 + i)).v:Int)) :
 Ok (patinaref05_Chip_Read k (some ⟨r,0,none⟩) p m) fun x => ∃ d,x.1 = ⟨some ⟨d,0,some 1⟩,256,256⟩ ∧ x.2.1 = 0 ∧ RefX x.2.2 r lab g (σ.readd p) ∧ Ch (fun p => lab p ≠ none) m x.2.2 ∧ m.length ≤ d ∧ x.2.2[d]? = some (.live (bys 256 W)):=by
 unfold patinaref05_Chip_Read
 rw [refIsPage_is]
 have h0:=hp.1
 have h1:=hp.2
 obtain ⟨m',e1,e2,e3⟩:=h.setB (x:=p / 8) (by omega) (by omega) (y:=1) (by omega) (v:=.int .i64 ((σ.b (p / 8)).reads + 1)) (g.A (p / 8)) { σ.b (p / 8) with reads:=(σ.b (p / 8)).reads + 1 } rfl rfl (h.at_ _ (by omega) (by omega))
 rw [upd_self] at e2
 have i1:inRange (p / 8) 12 = true:=inRange_yes (by omega) (by omega)
 simp (disch:=omega) only [SX,plus,decide_eq_true hp,h.ldOn,ho,h.ldB,i1,h.ldReads (show 0 ≤ p / 8 by omega) (show p / 8 < 12 by omega),e1]
 have e2':RefX m' r lab g (σ.readd p):=e2
 refine .bind (refPage_ok e2' k hk h0 h1 (W:=W) fun q i hq hi => by rw [readd_at];exact hW q i hq hi) ?_
 rintro ⟨_,m2⟩ ⟨d,rfl,hg,hd,h2⟩
 simp only at hg h2 ⊢
 exact .some ⟨d,rfl,rfl,e2'.grow hg,e3.trans hg.ch,by have:=e3.len;omega,h2⟩
end
section
variable {f:Int → List Value} (hf:∀ i,(f i).length = 4) {J:Int} (j0:0 ≤ J) (j1:J < 32) {c4:List Value} (h4:c4.length = 4)
include hf j0 j1 h4
theorem lc_get {y:Nat} (hy:y < 4):(farr 32 (upd f J c4))[J.toNat * 4 + y]? = c4[y]?:=by
 have:=farr_get (n:=32) (z:=4) (f:=upd f J c4) (fun i _ _ => by unfold upd;split;exact h4;exact hf i) (i:=J.toNat) (by omega) hy
 rw [Int.toNat_of_nonneg j0,upd_same] at this;exact this
theorem lc_set {y:Nat} (hy:y < 4) (v:Value):(farr 32 (upd f J c4)).set (J.toNat * 4 + y) v = farr 32 (upd f J (c4.set y v)):=by
 have:=farr_set (n:=32) (z:=4) (f:=upd f J c4) (fun i _ _ => by unfold upd;split;exact h4;exact hf i) (i:=J.toNat) (by omega) hy v
 rw [Int.toNat_of_nonneg j0,upd_same,upd_upd] at this;exact this
theorem lc_len:(farr 32 (upd f J c4)).length = 128:=farr_len (z:=4) fun i _ _ => by unfold upd;split;exact h4;exact hf i
theorem lc_st {M:Mem} {d y:Nat} (hM:M[d]? = some (.live (farr 32 (upd f J c4)))) (hy:y < 4) (v:Value):st M ⟨d,J.toNat * 4 + y,some 4⟩ v = some (wr M d (farr 32 (upd f J (c4.set y v)))):=by
 rw [st_wr hM (by rw [lc_len hf j0 j1 h4];omega),lc_set hf j0 j1 h4 hy]
end
section
variable {m:Mem} {r:Nat} {lab:Nat → Option Lab} {g:RG} {σ:ChipS} (h:RefX m r lab g σ)
include h
theorem refJ1_dec (k:Nat) {p:Int} (h0:0 ≤ p) (h1:p < 96) (a3:Option Addr) (n3:Nat) (r4:Option Addr × Mem) (ha:0 ≤ g.A (p / 8)) (b':Int) (hat:AtOk σ.steps (g.A (p / 8) - 1) b') :
 ∃ m',patinaref05_Chip_Write_j1 k p a3 n3 r4 ⟨g.q,0,some 5⟩ m = patinaref05_Chip_Write_j2 k p a3 n3 r4 ⟨g.q,0,some 5⟩ m' ∧ RefX m' r lab { g with A:=upd g.A (p / 8) (g.A (p / 8) - 1) } (σ.updB (p / 8) { σ.b (p / 8) with before:=b' }) ∧ Ch (fun p => lab p ≠ none) m m':=by
 have x0:0 ≤ p / 8:=by omega
 have x1:p / 8 < 12:=by omega
 have hA:=(h.at_ (p / 8) x0 x1).2
 obtain ⟨m',e1,e2,e3⟩:=h.setB x0 x1 (y:=3) (by omega) (v:=.int .i64 (g.A (p / 8) - 1)) (g.A (p / 8) - 1) { σ.b (p / 8) with before:=b' } rfl rfl hat
 refine ⟨m',?_,e2,e3⟩
 unfold patinaref05_Chip_Write_j1
 simp (disch:=omega) only [SX,plus,h.ldAt x0 x1,e1]
theorem refJ1_no (k:Nat) {p:Int} (h0:0 ≤ p) (h1:p < 96) (a3:Option Addr) (n3:Nat) (r4:Option Addr × Mem) (ha:g.A (p / 8) < 0) :
 patinaref05_Chip_Write_j1 k p a3 n3 r4 ⟨g.q,0,some 5⟩ m = patinaref05_Chip_Write_j2 k p a3 n3 r4 ⟨g.q,0,some 5⟩ m:=by
 have x0:0 ≤ p / 8:=by omega
 have x1:p / 8 < 12:=by omega
 unfold patinaref05_Chip_Write_j1
 simp (disch:=omega) only [SX,plus,h.ldAt x0 x1]
theorem refJ2 (k:Nat) {p q:Int} (hp:isAt p q) {a:Option Addr} {w:Nat → GF} (hsrc:∀ M:Mem,(∀ p0,p0 < m.length → lab p0 = none → M[p0]? = m[p0]?) → Src M a 64 w) (M4:Mem) :
 ∃ m' lab' g',patinaref05_Chip_Write_j2 k p a 64 (some ⟨g.L (p / 8),(p % 8 * 4 + q).toNat * 4,some 4⟩,M4) ⟨g.q,0,some 5⟩ m = some (if (σ.b (p / 8)).failed = true then 8 else 0,m') ∧
  RefX m' r lab' g' (if (σ.b (p / 8)).failed = true then σ else σ.put p q ⟨byI w,byI w,true,0⟩) ∧ Lx m m' lab lab':=by
 obtain ⟨h0,h1,h2,h3⟩:=hp
 have x0:0 ≤ p / 8:=by omega
 have x1:p / 8 < 12:=by omega
 unfold patinaref05_Chip_Write_j2
 cases hf:(σ.b (p / 8)).failed with
 | true =>
  refine ⟨m,lab,g,?_,by simpa using h,.refl _ _⟩
  simp (disch:=omega) only [SX,plus,h.ldFailed x0 x1,hf]
  rfl
 | false =>
  have hlab:=(h.ls (p / 8) x0 x1).2
  have hm0:=(h.ls (p / 8) x0 x1).1
  generalize hx:p / 8 = x at *
  generalize hJ:p % 8 * 4 + q = J at *
  have j0:0 ≤ J:=by omega
  have j1:J < 32:=by omega
  have hl:∀ i,(rch (g.N x i) (g.T x i) ((σ.b x).ch i)).length = 4:=fun _ => rfl
  have e0:rchs g x (σ.b x) = farr 32 (upd (fun j => rch (g.N x j) (g.T x j) ((σ.b x).ch j)) J (rch (g.N x J) (g.T x J) ((σ.b x).ch J))):=by rw [upd_self (fun j => rch (g.N x j) (g.T x j) ((σ.b x).ch j)) J];rfl
  rw [e0] at hm0
  have llt:=get_lt hm0
  generalize hfd:(fun j => rch (g.N x j) (g.T x j) ((σ.b x).ch j)) = f at *
  have hl':∀ i,(f i).length = 4:=fun i => by rw [← hfd];rfl
  generalize hL:g.L x = D at *
  have s1:=lc_st hl' j0 j1 (c4:=rch (g.N x J) (g.T x J) ((σ.b x).ch J)) rfl hm0 (y:=0) (by omega) (.slice none 0 0)
  have g1:=wr_get (cs:=farr 32 (upd f J ((rch (g.N x J) (g.T x J) ((σ.b x).ch J)).set 0 (.slice none 0 0)))) hm0
  have n1:∀ p0,p0 ≠ D → (wr m D (farr 32 (upd f J ((rch (g.N x J) (g.T x J) ((σ.b x).ch J)).set 0 (.slice none 0 0)))))[p0]? = m[p0]?:=fun p0 hn => wr_ne (Ne.symm hn)
  have z1:(wr m D (farr 32 (upd f J ((rch (g.N x J) (g.T x J) ((σ.b x).ch J)).set 0 (.slice none 0 0))))).length = m.length:=wr_len
  generalize wr m D (farr 32 (upd f J ((rch (g.N x J) (g.T x J) ((σ.b x).ch J)).set 0 (.slice none 0 0)))) = m1 at *
  have l1:ldSl m1 ⟨D,J.toNat * 4,some 4⟩ = some ⟨none,0,0⟩:=ldSl_of g1 (lc_get (y:=0) hl' j0 j1 rfl (by omega))
  have r1:rdSl m1 a 64 1 = some (bys 64 w):=hsrc m1 fun p0 _ hn => n1 p0 fun he => by rw [he,hlab] at hn;cases hn
  have a1:appM 1 1 m1 none 0 0 64 (bys 64 w) = some (⟨some ⟨m1.length,0,some 1⟩,64,64⟩,m1 ++ [.live (bys 64 w)]):=appM_first (by omega) (by unfold most;omega) (by unfold most;omega)
  rw [z1] at a1
  have g2:=get_grow (g:=[.live (bys 64 w)]) g1
  have s2:=lc_st hl' j0 j1 rfl g2 (y:=0) (by omega) (.slice (some ⟨m.length,0,some 1⟩) 64 64)
  have b2:=get_last (m:=m1) (o:=.live (bys 64 w)) z1
  have n2:∀ p0,p0 < m.length → p0 ≠ D → (wr (m1 ++ [.live (bys 64 w)]) D (farr 32 (upd f J (((rch (g.N x J) (g.T x J) ((σ.b x).ch J)).set 0 (.slice none 0 0)).set 0 (.slice (some ⟨m.length,0,some 1⟩) 64 64)))))[p0]? = m[p0]?:=fun p0 hp hn => by rw [wr_ne (Ne.symm hn),get_app_lt (by omega),n1 p0 hn]
  have g3:=wr_get (cs:=farr 32 (upd f J (((rch (g.N x J) (g.T x J) ((σ.b x).ch J)).set 0 (.slice none 0 0)).set 0 (.slice (some ⟨m.length,0,some 1⟩) 64 64)))) g2
  have b3:(wr (m1 ++ [.live (bys 64 w)]) D (farr 32 (upd f J (((rch (g.N x J) (g.T x J) ((σ.b x).ch J)).set 0 (.slice none 0 0)).set 0 (.slice (some ⟨m.length,0,some 1⟩) 64 64)))))[m.length]? = some (.live (bys 64 w)):=by rw [wr_ne (by omega)];exact b2
  have z3:(wr (m1 ++ [.live (bys 64 w)]) D (farr 32 (upd f J (((rch (g.N x J) (g.T x J) ((σ.b x).ch J)).set 0 (.slice none 0 0)).set 0 (.slice (some ⟨m.length,0,some 1⟩) 64 64))))).length = m.length + 1:=by rw [wr_len];simp [z1]
  generalize wr (m1 ++ [.live (bys 64 w)]) D (farr 32 (upd f J (((rch (g.N x J) (g.T x J) ((σ.b x).ch J)).set 0 (.slice none 0 0)).set 0 (.slice (some ⟨m.length,0,some 1⟩) 64 64)))) = m3 at *
  have s4:=lc_st hl' j0 j1 rfl g3 (y:=1) (by omega) (.slice none 0 0)
  have g4:=wr_get (cs:=farr 32 (upd f J ((((rch (g.N x J) (g.T x J) ((σ.b x).ch J)).set 0 (.slice none 0 0)).set 0 (.slice (some ⟨m.length,0,some 1⟩) 64 64)).set 1 (.slice none 0 0)))) g3
  have n4:∀ p0,p0 < m.length + 1 → p0 ≠ D → (wr m3 D (farr 32 (upd f J ((((rch (g.N x J) (g.T x J) ((σ.b x).ch J)).set 0 (.slice none 0 0)).set 0 (.slice (some ⟨m.length,0,some 1⟩) 64 64)).set 1 (.slice none 0 0)))))[p0]? = m3[p0]?:=fun p0 _ hn => wr_ne (Ne.symm hn)
  have z4:(wr m3 D (farr 32 (upd f J ((((rch (g.N x J) (g.T x J) ((σ.b x).ch J)).set 0 (.slice none 0 0)).set 0 (.slice (some ⟨m.length,0,some 1⟩) 64 64)).set 1 (.slice none 0 0))))).length = m.length + 1:=by rw [wr_len];exact z3
  generalize wr m3 D (farr 32 (upd f J ((((rch (g.N x J) (g.T x J) ((σ.b x).ch J)).set 0 (.slice none 0 0)).set 0 (.slice (some ⟨m.length,0,some 1⟩) 64 64)).set 1 (.slice none 0 0)))) = m4 at *
  have l4:ldSl m4 ⟨D,J.toNat * 4 + 1,some 4⟩ = some ⟨none,0,0⟩:=ldSl_of g4 (lc_get (y:=1) hl' j0 j1 rfl (by omega))
  have r4:rdSl m4 a 64 1 = some (bys 64 w):=hsrc m4 fun p0 hp hn => by
   have hd:p0 ≠ D:=fun he => by rw [he,hlab] at hn;cases hn
   rw [n4 p0 (by omega) hd,n2 p0 hp hd]
  have a4:appM 1 1 m4 none 0 0 64 (bys 64 w) = some (⟨some ⟨m4.length,0,some 1⟩,64,64⟩,m4 ++ [.live (bys 64 w)]):=appM_first (by omega) (by unfold most;omega) (by unfold most;omega)
  rw [z4] at a4
  have g5:=get_grow (g:=[.live (bys 64 w)]) g4
  have b5:=get_last (m:=m4) (o:=.live (bys 64 w)) z4
  have s5:=lc_st hl' j0 j1 rfl g5 (y:=1) (by omega) (.slice (some ⟨m.length + 1,0,some 1⟩) 64 64)
  have g6:=wr_get (cs:=farr 32 (upd f J (((((rch (g.N x J) (g.T x J) ((σ.b x).ch J)).set 0 (.slice none 0 0)).set 0 (.slice (some ⟨m.length,0,some 1⟩) 64 64)).set 1 (.slice none 0 0)).set 1 (.slice (some ⟨m.length + 1,0,some 1⟩) 64 64)))) g5
  have s6:=lc_st hl' j0 j1 rfl g6 (y:=2) (by omega) (.bool true)
  rw [wr_wr] at s6
  have g7:=wr_get (cs:=farr 32 (upd f J ((((((rch (g.N x J) (g.T x J) ((σ.b x).ch J)).set 0 (.slice none 0 0)).set 0 (.slice (some ⟨m.length,0,some 1⟩) 64 64)).set 1 (.slice none 0 0)).set 1 (.slice (some ⟨m.length + 1,0,some 1⟩) 64 64)).set 2 (.bool true)))) g5
  have s7:=lc_st hl' j0 j1 rfl g7 (y:=3) (by omega) (.int .i64 0)
  rw [wr_wr] at s7
  have hc:(((((((rch (g.N x J) (g.T x J) ((σ.b x).ch J)).set 0 (.slice none 0 0)).set 0 (.slice (some ⟨m.length,0,some 1⟩) 64 64)).set 1 (.slice none 0 0)).set 1 (.slice (some ⟨m.length + 1,0,some 1⟩) 64 64)).set 2 (.bool true)).set 3 (.int .i64 0)) = rch (m.length,true) (m.length + 1,true) ⟨byI w,byI w,true,0⟩:=rfl
  rw [hc] at s7
  have hmf:∀ p0,p0 < m.length → p0 ≠ D → (wr (m4 ++ [.live (bys 64 w)]) D (farr 32 (upd f J (rch (m.length,true) (m.length + 1,true) ⟨byI w,byI w,true,0⟩))))[p0]? = m[p0]?:=fun p0 hp hn => by
   rw [wr_ne (Ne.symm hn),get_app_lt (by omega),n4 p0 (by omega) hn,n2 p0 hp hn]
  let lab':Nat → Option Lab:=fun p0 => if p0 = m.length then some (.of x (.n J)) else if p0 = m.length + 1 then some (.of x (.t J)) else lab p0
  have llab:∀ p0,lab p0 ≠ none → lab' p0 = lab p0:=fun p0 hp => by
   have:=h.lt p0 hp
   show (if _ then _ else _) = _
   rw [if_neg (by omega),if_neg (by omega)]
  have lnew:∀ p0,lab' p0 ≠ none → lab p0 ≠ none ∨ p0 = m.length ∨ p0 = m.length + 1:=fun p0 hp => by
   by_cases q1:p0 = m.length
   ·exact .inr (.inl q1)
   ·by_cases q2:p0 = m.length + 1
    ·exact .inr (.inr q2)
    ·left
     have:lab' p0 = lab p0:=by show (if _ then _ else _) = _;rw [if_neg q1,if_neg q2]
     rwa [← this]
  have zf:(wr (m4 ++ [.live (bys 64 w)]) D (farr 32 (upd f J (rch (m.length,true) (m.length + 1,true) ⟨byI w,byI w,true,0⟩)))).length = m.length + 2:=by rw [wr_len];simp [z4]
  have bf:(wr (m4 ++ [.live (bys 64 w)]) D (farr 32 (upd f J (rch (m.length,true) (m.length + 1,true) ⟨byI w,byI w,true,0⟩))))[m.length]? = some (.live (bys 64 w)):=by
   rw [wr_ne (by omega),get_app_lt (by omega),n4 _ (by omega) (by omega)];exact b3
  have bf1:(wr (m4 ++ [.live (bys 64 w)]) D (farr 32 (upd f J (rch (m.length,true) (m.length + 1,true) ⟨byI w,byI w,true,0⟩))))[m.length + 1]? = some (.live (bys 64 w)):=by
   rw [wr_ne (by omega)];exact b5
  have gf:=wr_get (cs:=farr 32 (upd f J (rch (m.length,true) (m.length + 1,true) ⟨byI w,byI w,true,0⟩))) g5
  refine ⟨wr (m4 ++ [.live (bys 64 w)]) D (farr 32 (upd f J (rch (m.length,true) (m.length + 1,true) ⟨byI w,byI w,true,0⟩))),lab',{ g with N:=upd g.N x (upd (g.N x) J (m.length,true)),T:=upd g.T x (upd (g.T x) J (m.length + 1,true)) },?_,?_,?_⟩
  ·rw [Nat.add_zero] at s1 s2
   simp (disch:=omega) only [SX,plus,hx,h.ldFailed x0 x1,hf,s1,l1,r1,a1,s2,s4,l4,r4,a4,s5,s6,s7]
   rfl
  ·rw [if_neg (by simp)]
   have key:=h.chunk (i:=x) (j:=J) (lab':=lab') (n':=(m.length,true)) (t':=(m.length + 1,true)) (c':=⟨byI w,byI w,true,0⟩) (m':=wr (m4 ++ [.live (bys 64 w)]) D (farr 32 (upd f J (rch (m.length,true) (m.length + 1,true) ⟨byI w,byI w,true,0⟩)))) x0 x1 j0 j1 ?_ llab ?_ ?_ ?_ ?_
   ·unfold ChipS.put;rw [hx,hJ];exact key
   ·intro p0 hp
    rw [zf]
    rcases lnew p0 hp with q1 | q1 | q1
    ·have:=h.lt p0 q1;omega
    ·omega
    ·omega
   ·intro p0 hp hn _
    rw [hL] at hn
    exact hmf p0 (h.lt p0 hp) hn
   ·rw [hL,hfd];exact gf
   ·refine ⟨bf,?_⟩
    show (if _ then _ else _) = _
    rw [if_pos rfl]
   ·refine ⟨bf1,?_⟩
    show (if _ then _ else _) = _
    rw [if_neg (by simp),if_pos rfl]
  ·refine ⟨⟨by rw [zf];omega,fun p0 hp hn => hmf p0 hp fun he => ?_⟩,llab,fun p0 hp => ?_⟩
   ·subst he;exact hn (by rw [hlab];simp)
   ·rcases lnew p0 hp with q1 | q1 | q1
    ·exact .inl q1
    ·exact .inr (by omega)
    ·exact .inr (by omega)
theorem refWrite_is (k:Nat) (hs:0 ≤ σ.steps ∧ σ.steps < 4611686018427387904) (hb:0 ≤ σ.budget ∧ σ.budget < 9223372036854775808) (hw:∀ x,0 ≤ (σ.b x).before ∧ (σ.b x).before < 9223372036854775808) (p q:Int) {a:Option Addr} {n cc:Nat} {w:Nat → GF}
 (hsrc:n = 64 → ∀ M:Mem,(∀ p0,p0 < m.length → lab p0 = none → M[p0]? = m[p0]?) → Src M a 64 w) :
 ∃ m' lab' g',patinaref05_Chip_Write k (some ⟨r,0,none⟩) p q a n cc m = some ((σ.write p q n (byI w)).1,m') ∧ RefX m' r lab' g' (σ.write p q n (byI w)).2 ∧ Lx m m' lab lab':=by
 unfold patinaref05_Chip_Write
 rw [refIsPage_is]
 by_cases hp:isAt p q
 ·have hp':=hp
  obtain ⟨h0,h1,h2,h3⟩:=hp'
  have x0:0 ≤ p / 8:=by omega
  have x1:p / 8 < 12:=by omega
  by_cases hn:n = 64
  ·subst hn
   have hsrc:=hsrc rfl
   have e64:(((64:Nat):Int) != 64) = false:=rfl
   cases ho:σ.off with
   | true =>
    have ew:σ.write p q 64 (byI w) = (7,σ):=by unfold ChipS.write;rw [if_neg (fun h => h hp),if_neg (fun h => h rfl),if_pos ho]
    refine ⟨m,lab,g,?_,by rw [ew];exact h,.refl _ _⟩
    rw [ew]
    simp (disch:=omega) only [SX,plus,decide_eq_true (show 0 ≤ p ∧ p < 96 from ⟨h0,h1⟩),decide_eq_false (show ¬ q < 0 by omega),decide_eq_false (show ¬ q ≥ 4 by omega),e64,h.ldOn,ho]
   | false =>
    cases hi:(σ.at_ p q).is with
    | true =>
     have ew:σ.write p q 64 (byI w) = (9,σ):=by unfold ChipS.write;rw [if_neg (fun h => h hp),if_neg (fun h => h rfl),if_neg (by simp [ho]),if_pos hi]
     refine ⟨m,lab,g,?_,by rw [ew];exact h,.refl _ _⟩
     rw [ew]
     simp (disch:=omega) only [SX,plus,decide_eq_true (show 0 ≤ p ∧ p < 96 from ⟨h0,h1⟩),decide_eq_false (show ¬ q < 0 by omega),decide_eq_false (show ¬ q ≥ 4 by omega),e64,h.ldOn,ho,refChunk_is h hp,h.ldIs hp,hi]
    | false =>
     obtain ⟨s1,hR⟩:=refStep_is h k hs hb
     have hch:=h.chHead (rhead g.q σ.step.2)
     have hb1:=step_b σ
     by_cases hst:σ.step.1 = 0
     ·
      have est:σ.step.2.steps = σ.steps + 1:=by
       unfold ChipS.step at hst ⊢
       split
       ·split
        ·rename_i q1 q2;rw [if_pos q1,if_pos q2] at hst;cases hst
        ·rfl
       ·rfl
      have hat:=(h.at_ (p / 8) x0 x1)
      have hbx:σ.step.2.b (p / 8) = σ.b (p / 8):=by rw [hb1]
      generalize hτ:σ.step.2 = τ at *
      generalize hm1:wr m r (rhead g.q τ) = m1 at *
      have hl1:m1.length = m.length:=by rw [← hm1,wr_len]
      have hwb:=hw (p / 8)
      have wear:∃ m2 g2,((ldInt .i64 m1 ⟨g.q,(p / 8).toNat * 5 + 3,some 5⟩).bind fun t35 => bif t35 == 0 then ((st m1 ⟨g.q,(p / 8).toNat * 5 + 2,some 5⟩ (.bool true)).bind fun m36 => patinaref05_Chip_Write_j1 k p a 64 (some ⟨g.L (p / 8),(p % 8 * 4 + q).toNat * 4,some 4⟩,m) ⟨g.q,0,some 5⟩ m36)
       else patinaref05_Chip_Write_j1 k p a 64 (some ⟨g.L (p / 8),(p % 8 * 4 + q).toNat * 4,some 4⟩,m) ⟨g.q,0,some 5⟩ m1) = patinaref05_Chip_Write_j2 k p a 64 (some ⟨g2.L (p / 8),(p % 8 * 4 + q).toNat * 4,some 4⟩,m) ⟨g2.q,0,some 5⟩ m2 ∧ RefX m2 r lab g2 (τ.updB (p / 8) (τ.b (p / 8)).worn) ∧ Ch (fun p => lab p ≠ none) m1 m2:=by
       rw [hR.ldAt x0 x1]
       obtain ⟨hat1,hat2,hat3⟩:=hat
       by_cases za:g.A (p / 8) = 0
       ·have hbf:(τ.b (p / 8)).before = 1:=by rw [hbx];omega
        obtain ⟨m2,e1,e2,e3⟩:=hR.setB x0 x1 (y:=2) (by omega) (v:=.bool true) (g.A (p / 8)) { τ.b (p / 8) with failed:=true } rfl rfl (hR.at_ _ x0 x1)
        rw [upd_self] at e2
        obtain ⟨m3,f1,f2,f3⟩:=refJ1_dec e2 k h0 h1 a 64 (some ⟨g.L (p / 8),(p % 8 * 4 + q).toNat * 4,some 4⟩,m) (by show 0 ≤ g.A (p / 8);omega) ((τ.b (p / 8)).before - 1) (by
         refine ⟨.inl ?_,?_,?_⟩
         ·show g.A (p / 8) - 1 + 1 = _;omega
         ·show -1 ≤ g.A (p / 8) - 1;omega
         ·show g.A (p / 8) - 1 < _;omega)
        refine ⟨m3,{ g with A:=upd g.A (p / 8) (g.A (p / 8) - 1) },?_,?_,e3.trans f3⟩
        ·rw [Option.bind_some,beqI_yes za,cond_true,e1,Option.bind_some,f1]
        ·have e4:(τ.updB (p / 8) { τ.b (p / 8) with failed:=true }).updB (p / 8) { (τ.updB (p / 8) { τ.b (p / 8) with failed:=true }).b (p / 8) with before:=(τ.b (p / 8)).before - 1 } = τ.updB (p / 8) (τ.b (p / 8)).worn:=by
          rw [put_b]
          congr 1
          show ({ upd τ.b (p / 8) _ (p / 8) with before:=_ }:BlockS) = _
          rw [upd_same]
          unfold BlockS.worn
          rw [if_pos (by omega),hbf]
          simp
         rw [e4] at f2
         exact f2
       ·by_cases na:0 ≤ g.A (p / 8)
        ·have hbf:(τ.b (p / 8)).before > 1:=by rw [hbx];omega
         obtain ⟨m3,f1,f2,f3⟩:=refJ1_dec hR k h0 h1 a 64 (some ⟨g.L (p / 8),(p % 8 * 4 + q).toNat * 4,some 4⟩,m) na ((τ.b (p / 8)).before - 1) (by rw [hbx];exact ⟨by omega,by omega,by omega⟩)
         refine ⟨m3,{ g with A:=upd g.A (p / 8) (g.A (p / 8) - 1) },?_,?_,f3⟩
         ·rw [Option.bind_some,beqI_no za,cond_false,f1]
         ·have e4:({ τ.b (p / 8) with before:=(τ.b (p / 8)).before - 1 }:BlockS) = (τ.b (p / 8)).worn:=by
           unfold BlockS.worn
           rw [if_pos (by omega),beqI_no (show (τ.b (p / 8)).before - 1 ≠ 0 by omega),Bool.or_false]
          rw [e4] at f2
          exact f2
        ·refine ⟨m1,g,?_,?_,.refl _ _⟩
         ·rw [Option.bind_some,beqI_no za,cond_false,refJ1_no hR k h0 h1 _ _ _ (by omega)]
         ·have e4:(τ.b (p / 8)).worn = τ.b (p / 8):=by unfold BlockS.worn;rw [if_neg (by rw [hbx];omega)]
          rw [e4]
          have:τ.updB (p / 8) (τ.b (p / 8)) = τ:=by unfold ChipS.updB;rw [upd_self]
          rw [this];exact hR
      obtain ⟨m2,g2,w1,w2,w3⟩:=wear
      have hl2:=w3.len
      obtain ⟨m3,lab',g3,v1,v2,v3⟩:=refJ2 w2 k hp (a:=a) (w:=w) (fun M hM => hsrc M fun p0 hp hn => by
       rw [hM p0 (by omega) hn,w3.get p0 (by omega) (fun h => h hn),hch.get p0 hp (fun h => h hn)]) m
      have hwf:((τ.updB (p / 8) (τ.b (p / 8)).worn).b (p / 8)) = (τ.b (p / 8)).worn:=upd_same _ _ _
      rw [hwf] at v1 v2
      have ew:σ.write p q 64 (byI w) = if (τ.b (p / 8)).worn.failed = true then (8,τ.updB (p / 8) (τ.b (p / 8)).worn) else (0,(τ.updB (p / 8) (τ.b (p / 8)).worn).put p q ⟨byI w,byI w,true,0⟩):=by
       unfold ChipS.write;rw [if_neg (fun h => h hp),if_neg (fun h => h rfl),if_neg (by simp [ho]),if_neg (by simp [hi]),if_neg (fun h => h hst),hτ]
      refine ⟨m3,lab',g3,?_,?_,(Lx.of (hch.trans w3)).trans v3⟩
      ·have i1:inRange (p / 8) 12 = true:=inRange_yes (by omega) (by omega)
       rw [ew]
       simp (disch:=omega) only [SX,plus,decide_eq_true (show 0 ≤ p ∧ p < 96 from ⟨h0,h1⟩),decide_eq_false (show ¬ q < 0 by omega),decide_eq_false (show ¬ q ≥ 4 by omega),e64,h.ldOn,ho,refChunk_is h hp,h.ldIs hp,hi,s1,decide_eq_true hst,hR.ldB,i1]
       rw [w1,v1]
       split <;> rfl
      ·rw [ew]
       split
       ·rename_i q1;rw [if_pos q1] at v2;exact v2
       ·rename_i q1;rw [if_neg q1] at v2;exact v2
     ·have ew:σ.write p q 64 (byI w) = (7,σ.step.2):=by
       unfold ChipS.write;rw [if_neg (fun h => h hp),if_neg (fun h => h rfl),if_neg (by simp [ho]),if_neg (by simp [hi]),if_pos hst]
       unfold ChipS.step at hst ⊢
       split
       ·split
        ·rfl
        ·rename_i q1 q2;rw [if_pos q1,if_neg q2] at hst;exact absurd rfl hst
       ·rename_i q1;rw [if_neg q1] at hst;exact absurd rfl hst
      refine ⟨_,lab,g,?_,by rw [ew];exact hR,Lx.of hch⟩
      rw [ew]
      simp (disch:=omega) only [SX,plus,decide_eq_true (show 0 ≤ p ∧ p < 96 from ⟨h0,h1⟩),decide_eq_false (show ¬ q < 0 by omega),decide_eq_false (show ¬ q ≥ 4 by omega),e64,h.ldOn,ho,refChunk_is h hp,h.ldIs hp,hi,s1,decide_eq_false hst]
  ·have ew:σ.write p q n (byI w) = (1,σ):=by unfold ChipS.write;rw [if_neg (fun h => h hp),if_pos hn]
   have en:(((n:Nat):Int) != 64) = true:=bneI_yes (by omega)
   refine ⟨m,lab,g,?_,by rw [ew];exact h,.refl _ _⟩
   rw [ew]
   simp (disch:=omega) only [SX,plus,decide_eq_true (show 0 ≤ p ∧ p < 96 from ⟨h0,h1⟩),decide_eq_false (show ¬ q < 0 by omega),decide_eq_false (show ¬ q ≥ 4 by omega),en]
 ·have ew:σ.write p q n (byI w) = (1,σ):=by unfold ChipS.write;rw [if_pos hp]
  refine ⟨m,lab,g,?_,by rw [ew];exact h,.refl _ _⟩
  rw [ew]
  by_cases h0:0 ≤ p ∧ p < 96
  ·by_cases h1:q < 0
   ·simp (disch:=omega) only [SX,plus,decide_eq_true h0,decide_eq_true h1]
   ·simp (disch:=omega) only [SX,plus,decide_eq_true h0,decide_eq_false h1,decide_eq_true (show q ≥ 4 by unfold isAt at hp;omega)]
  ·simp (disch:=omega) only [SX,plus,decide_eq_false h0]
end
end Go.Proofs.YtchonnaoojpdoaaGreat
set_option linter.unusedVariables false
set_option linter.unusedSectionVars false
set_option linter.unusedSimpArgs false
namespace Go.Proofs.YtchonnaoojpdoaaGreat
open Go.Mx
theorem refBlank_is (k:Nat) (hk:64 < k) (m:Mem):patinaref05_blank k m = some (⟨some ⟨m.length,0,none⟩,64,64⟩,m ++ [.live (arr .u8 64 fun _ => 255)]):=by
 have key:Ok (patinaref05_blank k m) fun r => r = (⟨some ⟨m.length,0,none⟩,64,64⟩,m ++ [.live (arr .u8 64 fun _ => 255)]):=by
  unfold patinaref05_blank
  have t64:Int.toNat 64 = 64:=rfl
  simp (disch:=omega) only [SX,plus,t64,repl_int (k:=.u8)]
  refine patinaref05_blank_l0_rule k _ (fun r x1a x1n x1c x2 M => (some ⟨m.length,0,none⟩:Option Addr) = x1a ∧ 64 = x1n ∧ 64 = x1c ∧ ∃ j:Nat,x2 = j ∧ j + r = 64 ∧ M = m ++ [.live (arr .u8 64 fun i => if i < j then 255 else 0)]) ?_ k 64 _ _ _ _ _ hk
   ⟨rfl,rfl,rfl,0,rfl,rfl,by rw [arr_congr (f:=fun i => if i < ((0:Nat):Int) then 255 else 0) (g:=fun _ => 0) fun i h0 _ => if_neg (by omega)]⟩
  rintro r nx _ _ _ _ _ ⟨rfl,rfl,rfl,j,rfl,hr,rfl⟩ hnx
  unfold patinaref05_blank_l0_b
  by_cases hj:(j:Int) < 64
  ·have e2:=arr_stn (sp:=none) (v:=255) (get_last (m:=m) (o:=.live (arr .u8 64 fun i => if i < (j:Int) then 255 else 0)) rfl) (i:=j) (by omega)
   rw [wr_last rfl] at e2
   have i1:inRange (j:Int) 64 = true:=inRange_yes (by omega) (by omega)
   simp (disch:=omega) only [SX,plus,i1,e2]
   refine hnx (r - 1) _ _ _ _ _ (by omega) ⟨rfl,rfl,rfl,j + 1,by omega,by omega,?_⟩
   congr 3
   refine arr_congr fun i h0 h1 => ?_
   unfold upd
   by_cases h2:i = (j:Int)
   ·rw [if_pos h2,if_pos (by omega)]
   ·rw [if_neg h2]
    show (if i < (j:Int) then (255:Int) else 0) = _
    by_cases h3:i < (j:Int)
    ·rw [if_pos h3,if_pos (by omega)]
    ·rw [if_neg h3,if_neg (by omega)]
  ·obtain rfl:j = 64:=by omega
   simp (disch:=omega) only [SX,plus]
   refine .some ?_
   rw [arr_congr (f:=fun i => if i < ((64:Nat):Int) then 255 else 0) (g:=fun _ => 255) fun i _ h1 => if_pos (by omega)]
 obtain ⟨r,h1,rfl⟩:=key
 exact h1
structure Cks (m0 m:Mem) (n:Nat) (a:Option Addr) (lb:Nat → Option CL) (N T:Int → Nat × Bool):Prop where
 gr:Gr m0 m
 row:(a = none ∧ n = 0) ∨ ∃ L,a = some ⟨L,0,some 4⟩ ∧ m0.length ≤ L ∧ m[L]? = some (.live (farr n fun j => rch (N j) (T j) blank)) ∧ lb L = some .l
 n_:∀ j:Int,0 ≤ j → j < n → m[(N j).1]? = some (.live (arr .u8 64 fun _ => 255)) ∧ lb (N j).1 = some (.n j)
 t_:∀ j:Int,0 ≤ j → j < n → m[(T j).1]? = some (.live (arr .u8 64 fun _ => 255)) ∧ lb (T j).1 = some (.t j)
 new:∀ p,lb p ≠ none → m0.length ≤ p ∧ p < m.length
theorem appM_any {z y:Nat} {m:Mem} {a:Option Addr} {n l:Nat} {old new:List Value} (h:(a = none ∧ n = 0 ∧ old = []) ∨ ∃ b,a = some ⟨b,0,some z⟩ ∧ m[b]? = some (.live old) ∧ old.length = n * z) (hl:0 < l) (h1:(n + l) * y ≤ most) (h2:n + l ≤ most) :
 ∃ m',appM z y m a n n l new = some (⟨some ⟨m.length,0,some z⟩,n + l,n + l⟩,m') ∧ m'.length = m.length + 1 ∧ m'[m.length]? = some (.live (old ++ new)) ∧ (∀ p,p < m.length → (∀ b,a = some ⟨b,0,some z⟩ → p ≠ b) → m'[p]? = m[p]?) ∧ ∀ m0,Gr m0 m → (∀ b,a = some ⟨b,0,some z⟩ → m0.length ≤ b) → Gr m0 m':=by
 rcases h with ⟨rfl,rfl,rfl⟩ | ⟨b,rfl,h3,h4⟩
 ·refine ⟨m ++ [.live new],?_,by simp,by rw [get_last rfl];rfl,fun p hp _ => get_app_lt hp,fun m0 h0 _ => h0.trans (Gr.app _ _)⟩
  rw [Nat.zero_add] at h1 h2 ⊢;exact appM_first hl h1 h2
 ·refine ⟨m.set b (.old old m.length) ++ [.live (old ++ new)],appM_grow h3 h4 hl h1 h2,by simp,get_last (by simp),fun p hp hb => ?_,fun m0 h0 hb => (h0.kill (hb b rfl) _).trans (Gr.app _ _)⟩
  rw [get_app_lt (by simpa using hp),get_set_ne (fun h => hb b rfl h.symm)]
theorem refChunks_ok (k:Nat) (hk:64 < k) (m0:Mem):Ok (patinaref05_chunks k m0) fun r => ∃ a lb N T,r.1 = ⟨a,32,32⟩ ∧ Cks m0 r.2 32 a lb N T:=by
 unfold patinaref05_chunks
 refine patinaref05_chunks_l0_rule k _ (fun r x1a x1n x1c x2 M => ∃ (j:Nat) (lb:Nat → Option CL) (N T:Int → Nat × Bool),x2 = j ∧ j + r = 32 ∧ j = x1n ∧ j = x1c ∧ Cks m0 M j x1a lb N T) ?_ k 32 _ _ _ _ _ (by omega)
  ⟨0,fun _ => none,fun _ => (0,false),fun _ => (0,false),rfl,rfl,rfl,rfl,⟨.refl _,.inl ⟨rfl,rfl⟩,fun j h0 h1 => by omega,fun j h0 h1 => by omega,fun p hp => absurd rfl hp⟩⟩
 rintro r nx a _ _ _ M ⟨j,lb,N,T,rfl,hr,rfl,rfl,hC⟩ hnx
 unfold patinaref05_chunks_l0_b
 by_cases hj:(j:Int) < 32
 ·have b1:=refBlank_is k hk M
  have b2:=refBlank_is k hk (M ++ [.live (arr .u8 64 fun _ => 255)])
  have l1:(M ++ [MObj.live (arr .u8 64 fun _ => 255)]).length = M.length + 1:=by simp
  have l2:(M ++ [MObj.live (arr .u8 64 fun _ => 255)] ++ [MObj.live (arr .u8 64 fun _ => 255)]).length = M.length + 2:=by simp
  rw [l1] at b2
  let c4:List Value:=rch (M.length,false) (M.length + 1,false) blank
  have hc4:([Value.slice (some ⟨M.length,0,none⟩) 64 64,.slice (some ⟨M.length + 1,0,none⟩) 64 64,.bool false,.int .i64 0]:List Value) = c4:=rfl
  have r4:rdSl (M ++ [MObj.live (arr .u8 64 fun _ => 255)] ++ [MObj.live (arr .u8 64 fun _ => 255)] ++ [.live c4]) (some ⟨M.length + 2,0,none⟩) 1 4 = some c4:=rdSl_all (get_last (by simp)) rfl
  have l3:(M ++ [MObj.live (arr .u8 64 fun _ => 255)] ++ [MObj.live (arr .u8 64 fun _ => 255)] ++ [MObj.live c4]).length = M.length + 3:=by simp
  have hgl:Gr M (M ++ [MObj.live (arr .u8 64 fun _ => 255)] ++ [MObj.live (arr .u8 64 fun _ => 255)] ++ [.live c4]):=((Gr.app _ _).trans (Gr.app _ _)).trans (Gr.app _ _)
  have g0:(M ++ [MObj.live (arr .u8 64 fun _ => 255)] ++ [MObj.live (arr .u8 64 fun _ => 255)] ++ [.live c4])[M.length]? = some (.live (arr .u8 64 fun _ => 255)):=get_grow (get_grow (get_last rfl))
  have g1:(M ++ [MObj.live (arr .u8 64 fun _ => 255)] ++ [MObj.live (arr .u8 64 fun _ => 255)] ++ [.live c4])[M.length + 1]? = some (.live (arr .u8 64 fun _ => 255)):=get_grow (get_last l1)
  simp (disch:=omega) only [SX,plus,decide_eq_true hj,b1,b2,hc4,l2]
  generalize M ++ [MObj.live (arr .u8 64 fun _ => 255)] ++ [MObj.live (arr .u8 64 fun _ => 255)] ++ [.live c4] = M3 at *
  have hlen:(farr j fun j => rch (N j) (T j) blank).length = j * 4:=farr_len (z:=4) fun _ _ _ => rfl
  have hml:=hC.gr.len
  obtain ⟨m',a1,a2,a3,a4,a5⟩:=appM_any (z:=4) (y:=64) (m:=M3) (a:=a) (n:=j) (l:=1) (old:=farr j fun j => rch (N j) (T j) blank) (new:=c4) (by
   rcases hC.row with ⟨h1,h2⟩ | ⟨L,h1,h2,h3,_⟩
   ·refine .inl ⟨h1,h2,?_⟩
    subst h2;rfl
   ·exact .inr ⟨L,h1,hgl.get h3,hlen⟩) (by omega) (by unfold most;omega) (by unfold most;omega)
  have rowne:∀ b,a = some ⟨b,0,some 4⟩ → m0.length ≤ b ∧ b < M.length ∧ lb b = some .l:=by
   rintro b rfl
   rcases hC.row with ⟨h1,_⟩ | ⟨L,h1,h2,h3,h4⟩
   ·cases h1
   ·simp only [Option.some.injEq,Addr.mk.injEq,and_true] at h1
    subst h1;exact ⟨h2,get_lt h3,h4⟩
  have a5:=a5 m0 (hC.gr.trans hgl) fun b hb => (rowne b hb).1
  rw [l3] at a1 a2 a3
  simp (disch:=omega) only [SX,plus,r4,a1]
  let N':Int → Nat × Bool:=upd N j (M.length,false)
  let T':Int → Nat × Bool:=upd T j (M.length + 1,false)
  let lb':Nat → Option CL:=fun p => if p = M.length then some (.n j) else if p = M.length + 1 then some (.t j) else if p = M.length + 3 then some .l else lb p
  have hlb:∀ p,p < M.length → lb' p = lb p:=fun p hp => by show (if _ then _ else _) = _;rw [if_neg (by omega),if_neg (by omega),if_neg (by omega)]
  have keep:∀ p o,M[p]? = some o → (∀ b,a = some ⟨b,0,some 4⟩ → p ≠ b) → m'[p]? = some o:=fun p o hp hb => by
   rw [a4 p (by have:=get_lt hp;omega) hb];exact hgl.get hp
  refine hnx (r - 1) _ _ _ ((j:Int) + 1) _ (by omega) ⟨j + 1,lb',N',T',by omega,by omega,rfl,rfl,⟨a5,.inr ⟨M.length + 3,rfl,by omega,?_,?_⟩,fun i h0 h1 => ?_,fun i h0 h1 => ?_,fun p hp => ?_⟩⟩
  ·rw [a3,farr_succ]
   congr 3
   ·refine farr_congr fun i _ h1 => ?_
    show _ = rch (upd N j _ i) (upd T j _ i) blank
    rw [upd_ne (by omega),upd_ne (by omega)]
   ·show _ = rch (upd N j _ j) (upd T j _ j) blank
    rw [upd_same,upd_same]
  ·show (if _ then _ else _) = _
   rw [if_neg (by omega),if_neg (by omega),if_pos rfl]
  ·by_cases hi:i = (j:Int)
   ·subst hi
    show m'[(upd N j _ j).1]? = _ ∧ lb' (upd N j _ j).1 = _
    rw [upd_same]
    refine ⟨by rw [a4 M.length (by omega) fun b hb => by have:=(rowne b hb).2.1;omega];exact g0,?_⟩
    show (if _ then _ else _) = _
    rw [if_pos rfl]
   ·have:=hC.n_ i h0 (by omega)
    show m'[(upd N j _ i).1]? = _ ∧ lb' (upd N j _ i).1 = _
    rw [upd_ne hi]
    have q1:=get_lt this.1
    exact ⟨keep _ _ this.1 (fun b hb he => by have h2:=this.2;rw [he,(rowne b hb).2.2] at h2;cases h2),by rw [hlb _ q1];exact this.2⟩
  ·by_cases hi:i = (j:Int)
   ·subst hi
    show m'[(upd T j _ j).1]? = _ ∧ lb' (upd T j _ j).1 = _
    rw [upd_same]
    refine ⟨by rw [a4 (M.length + 1) (by omega) fun b hb => by have:=(rowne b hb).2.1;omega];exact g1,?_⟩
    show (if _ then _ else _) = _
    rw [if_neg (by omega),if_pos rfl]
   ·have:=hC.t_ i h0 (by omega)
    show m'[(upd T j _ i).1]? = _ ∧ lb' (upd T j _ i).1 = _
    rw [upd_ne hi]
    have q1:=get_lt this.1
    exact ⟨keep _ _ this.1 (fun b hb he => by have h2:=this.2;rw [he,(rowne b hb).2.2] at h2;cases h2),by rw [hlb _ q1];exact this.2⟩
  ·by_cases q0:p < M.length
   ·rw [hlb p q0] at hp
    have:=hC.new p hp
    omega
   ·refine ⟨by omega,?_⟩
    rw [a2]
    by_cases q1:p = M.length
    ·omega
    ·by_cases q2:p = M.length + 1
     ·omega
     ·by_cases q3:p = M.length + 3
      ·omega
      ·have:lb' p = lb p:=by show (if _ then _ else _) = _;rw [if_neg q1,if_neg q2,if_neg q3]
       rw [this] at hp
       have:=hC.new p hp
       omega
 ·obtain rfl:j = 32:=by omega
  simp (disch:=omega) only [SX,plus]
  exact .some ⟨a,lb,N,T,rfl,hC⟩
section
variable {m:Mem} {r:Nat} {lab:Nat → Option Lab} {g:RG} {σ:ChipS} (h:RefX m r lab g σ)
include h
theorem refErase_ok (k:Nat) (hk:64 < k) (hs:0 ≤ σ.steps ∧ σ.steps < 4611686018427387904) (hb:0 ≤ σ.budget ∧ σ.budget < 9223372036854775808) (x:Int) :
 Ok (patinaref05_Chip_Erase k (some ⟨r,0,none⟩) x m) fun y => y.1 = (σ.erase x).1 ∧ ∃ lab' g',RefX y.2 r lab' g' (σ.erase x).2 ∧ Lx m y.2 lab lab':=by
 unfold patinaref05_Chip_Erase
 rw [refIsBlock_is]
 by_cases hx:0 ≤ x ∧ x < 12
 ·obtain ⟨x0,x1⟩:=hx
  cases ho:σ.off with
  | true =>
   have ew:σ.erase x = (7,σ):=by unfold ChipS.erase;rw [if_neg (fun h => h ⟨x0,x1⟩),if_pos ho]
   simp (disch:=omega) only [SX,plus,decide_eq_true (show 0 ≤ x ∧ x < 12 from ⟨x0,x1⟩),h.ldOn,ho]
   rw [ew]
   exact .some ⟨rfl,lab,g,h,.refl _ _⟩
  | false =>
   obtain ⟨s1,hR⟩:=refStep_is h k hs hb
   have hch:=h.chHead (rhead g.q σ.step.2)
   by_cases hst:σ.step.1 = 0
   ·have ew:σ.erase x = if (σ.step.2.b x).failed || (σ.step.2.b x).atErase then (8,σ.step.2.updB x { σ.step.2.b x with failed:=true }) else (0,σ.step.2.updB x ({ σ.step.2.b x with failed:=false }:BlockS).clear):=by
     unfold ChipS.erase;rw [if_neg (fun h => h ⟨x0,x1⟩),if_neg (by simp [ho]),if_neg (fun h => h hst)]
    generalize hτ:σ.step.2 = τ at *
    generalize hm1:wr m r (rhead g.q τ) = m1 at *
    have i1:inRange x 12 = true:=inRange_yes x0 x1
    simp (disch:=omega) only [SX,plus,decide_eq_true (show 0 ≤ x ∧ x < 12 from ⟨x0,x1⟩),h.ldOn,ho,s1,decide_eq_true hst,hR.ldB,i1,hR.ldAtErase x0 x1]
    have fin:∀ (M:Mem) (τ':ChipS) (g':RG),RefX M r lab g' τ' → g'.q = g.q → Ch (fun p => lab p ≠ none) m1 M → Ok (patinaref05_Chip_Erase_j1 k x ⟨g.q,0,some 5⟩ M) fun y => (if (τ'.b x).failed = true then y.1 = 8 ∧ y.2 = M else y.1 = 0 ∧ ∃ lab' g',RefX y.2 r lab' g' (τ'.updB x (τ'.b x).clear) ∧ Lx M y.2 lab lab'):=by
     intro M τ' g' hM hq hcM
     unfold patinaref05_Chip_Erase_j1
     have e1:=hM.ldFailed x0 x1
     rw [hq] at e1
     cases hf:(τ'.b x).failed with
     | true =>
      simp (disch:=omega) only [SX,plus,e1,hf]
      exact .some ⟨rfl,rfl⟩
     | false =>
      simp (disch:=omega) only [SX,plus,e1,hf]
      refine .bind (refChunks_ok k hk M) ?_
      rintro ⟨_,M2⟩ ⟨a,lb,N,T,rfl,hC⟩
      simp only at hC ⊢
      rcases hC.row with ⟨_,h0⟩ | ⟨L,rfl,hL1,hL2,hL3⟩
      ·omega
      have h2:=hM.grow hC.gr
      have s2:=h2.stB x0 x1 (y:=0) (by omega) (v:=.slice (some ⟨L,0,some 4⟩) 32 32) (L':=L) (a':=g'.A x) (β':=τ'.b x) rfl
      have g2:=wr_get (cs:=rblks { g' with L:=upd g'.L x L,A:=upd g'.A x (g'.A x) } (τ'.updB x (τ'.b x))) h2.blocks
      have s3:=st_wr (sp:=some 5) (off:=x.toNat * 5 + 1) (v:=.int .i64 0) g2 (by rw [rblks_len];omega)
      rw [rblks_set (L':=L) (a':=g'.A x) (β':=(τ'.b x).clear) x0 x1 (by omega) (by
       show (rblk (upd g'.L x L x) (upd g'.A x (g'.A x) x) (upd τ'.b x (τ'.b x) x)).set 1 (.int .i64 0) = _
       rw [upd_same,upd_same,upd_same];rfl),wr_wr] at s3
      rw [hq,Nat.add_zero] at s2
      rw [hq] at s3
      simp (disch:=omega) only [SX,plus,s2,s3]
      have hpl:∀ p,lab p ≠ none → p < M.length:=hM.lt
      have hml:=hC.gr.len
      have hql:=get_lt h2.blocks
      rw [hq] at hql
      have eqs:({ { g' with L:=upd g'.L x L,A:=upd g'.A x (g'.A x) } with L:=upd (upd g'.L x L) x L,A:=upd (upd g'.A x (g'.A x)) x (g'.A x) }:RG) = { g' with L:=upd g'.L x L }:=by
       rw [upd_upd,upd_upd,upd_self]
      have eqc:(τ'.updB x (τ'.b x)).updB x (τ'.b x).clear = τ'.updB x (τ'.b x).clear:=put_b _ _ _ _
      have hne:∀ (p:Nat) o (cs:List Value),M2[p]? = some o → p ≠ g.q → (wr M2 g.q cs)[p]? = some o:=fun p o cs hp hn => by rw [wr_ne (Ne.symm hn)];exact hp
      let lab':Nat → Option Lab:=fun p => if M.length ≤ p then (lb p).map (Lab.of x) else lab p
      have hlq:=h2.lq
      rw [hq] at hlq
      have hqM:g.q < M.length:=hpl _ (by rw [hlq];simp)
      have lnew:∀ p o,lb p = some o → lab' p = some (.of x o) ∧ p ≠ g.q:=fun p o hp => by
       have:=hC.new p (by rw [hp];simp)
       refine ⟨?_,by omega⟩
       show (if _ then _ else _) = _
       rw [if_pos this.1,hp];rfl
      have lold:∀ p,lab p ≠ none → lab' p = lab p:=fun p hp => by
       show (if _ then _ else _) = _
       rw [if_neg (by have:=hpl p hp;omega)]
      refine .some ⟨rfl,lab',{ g' with L:=upd g'.L x L,N:=upd g'.N x N,T:=upd g'.T x T },?_,⟨⟨?_,fun p hp hn => ?_⟩,lold,fun p hp => ?_⟩⟩
      ·refine h2.block (i:=x) (L':=L) (N':=N) (T':=T) (β':=(τ'.b x).clear) x0 x1 ?_ lold ?_ ?_ ?_ ?_ ?_ ?_
       ·intro p hp
        rw [wr_len]
        have hp:(if M.length ≤ p then (lb p).map (Lab.of x) else lab p) ≠ none:=hp
        split at hp
        ·exact (hC.new p (fun h => hp (by rw [h];rfl))).2
        ·have:=hpl p hp;omega
       ·intro p hp hn
        rw [hq] at hn
        exact wr_ne (Ne.symm hn)
       ·rw [hq,wr_get (o:=.live (rblks g' τ')) (by rw [← hq];exact h2.blocks),eqc,upd_upd,upd_upd,upd_self]
       ·exact h2.at_ x x0 x1
       ·obtain ⟨q1,q2⟩:=lnew L _ hL3
        exact ⟨hne _ _ _ hL2 q2,q1⟩
       ·intro j j0 j1
        obtain ⟨q3,q4⟩:=hC.n_ j j0 (by omega)
        obtain ⟨q1,q2⟩:=lnew _ _ q4
        exact ⟨hne _ _ _ q3 q2,q1⟩
       ·intro j j0 j1
        obtain ⟨q3,q4⟩:=hC.t_ j j0 (by omega)
        obtain ⟨q1,q2⟩:=lnew _ _ q4
        exact ⟨hne _ _ _ q3 q2,q1⟩
      ·show _ ≤ (wr M2 g.q _).length;rw [wr_len];exact hml
      ·show (wr M2 g.q _)[p]? = _
       rw [wr_ne (fun he => hn (by rw [← he,hlq];simp))]
       obtain ⟨gg,hgg⟩:=hC.gr
       rw [hgg];exact get_app_lt hp
      ·have hp:(if M.length ≤ p then (lb p).map (Lab.of x) else lab p) ≠ none:=hp
       split at hp
       ·right;assumption
       ·left;exact hp
    cases hae:(τ.b x).atErase with
    | true =>
     obtain ⟨m2,e1,e2,e3⟩:=hR.setB x0 x1 (y:=2) (by omega) (v:=.bool true) (g.A x) { τ.b x with failed:=true } rfl rfl (hR.at_ x x0 x1)
     have hf2:((τ.updB x { τ.b x with failed:=true }).b x).failed = true:=by
      show (upd τ.b x _ x).failed = true
      rw [upd_same]
     simp (disch:=omega) only [SX,plus,e1]
     refine (fin m2 _ _ e2 rfl e3).mono ?_
     intro y hy
     rw [if_pos hf2] at hy
     obtain ⟨y1,y2⟩:=hy
     rw [ew,if_pos (by rw [hae,Bool.or_true])]
     exact ⟨y1,lab,_,by rw [y2];exact e2,by rw [y2];exact .of (hch.trans e3)⟩
    | false =>
     simp (disch:=omega) only [SX,plus]
     refine (fin m1 τ g hR rfl (.refl _ _)).mono ?_
     intro y hy
     cases hf:(τ.b x).failed with
     | true =>
      rw [if_pos hf] at hy
      obtain ⟨y1,y2⟩:=hy
      rw [ew,if_pos (by rw [hf,Bool.true_or])]
      refine ⟨y1,lab,g,?_,by rw [y2];exact .of hch⟩
      have e4:τ.updB x { τ.b x with failed:=true } = τ:=by
       have:({ τ.b x with failed:=true }:BlockS) = τ.b x:=by rw [← hf]
       rw [this];unfold ChipS.updB;rw [upd_self]
      rw [y2,e4];exact hR
     | false =>
      rw [if_neg (by simp [hf])] at hy
      obtain ⟨y1,lab',g',y2,y3⟩:=hy
      rw [ew,if_neg (by simp [hf,hae])]
      refine ⟨y1,lab',g',?_,(Lx.of hch).trans y3⟩
      have e4:({ τ.b x with failed:=false }:BlockS) = τ.b x:=by rw [← hf]
      rw [e4];exact y2
   ·have ew:σ.erase x = (7,σ.step.2):=by
     unfold ChipS.erase;rw [if_neg (fun h => h ⟨x0,x1⟩),if_neg (by simp [ho]),if_pos hst]
     unfold ChipS.step at hst ⊢
     split
     ·split
      ·rfl
      ·rename_i q1 q2;rw [if_pos q1,if_neg q2] at hst;exact absurd rfl hst
     ·rename_i q1;rw [if_neg q1] at hst;exact absurd rfl hst
    rw [ew]
    simp (disch:=omega) only [SX,plus,decide_eq_true (show 0 ≤ x ∧ x < 12 from ⟨x0,x1⟩),h.ldOn,ho,s1,decide_eq_false hst]
    exact .some ⟨rfl,lab,g,hR,.of hch⟩
 ·have ew:σ.erase x = (1,σ):=by unfold ChipS.erase;rw [if_pos hx]
  rw [ew]
  simp (disch:=omega) only [SX,plus,decide_eq_false hx]
  exact .some ⟨rfl,lab,g,h,.refl _ _⟩
end
end Go.Proofs.YtchonnaoojpdoaaGreat
