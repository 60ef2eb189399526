import Derived.Test.YtchonnaoojpdoaaGreatMxSl
import Derived.Test.YtchonnaoojpdoaaGreatMxPrim
set_option linter.unusedVariables false
set_option linter.unusedSimpArgs false
namespace Go.Mx
abbrev OA:=Option Addr
abbrev KT (R:Type):=Nat → List Value → Mem → Option R
structure Shape (ρ:Type) where
 enc:ρ → Value
 mem:ρ → Mem
 dec:Value → Mem → Option ρ
 ok:∀ v m r,dec v m = some r → v = enc r ∧ m = mem r
def FOk (P:Program) (n:Nat) {ρ:Type} (S:Shape ρ) (U:List Value → Mem → Option ρ):Prop:=∀ (vs:List Value) (m:Mem) (r:ρ),U vs m = some r → CallP P n vs m fun v m' => v = S.enc r ∧ m' = S.mem r
def arm {R ρ:Type} (S:Shape ρ) (U:List Value → Mem → Option ρ):Arm R:=fun vs m K => (U vs m).bind fun r => K (S.enc r) (S.mem r)
theorem armOk {P:Program} {n:Nat} {R ρ:Type} {S:Shape ρ} {U:List Value → Mem → Option ρ} (h:FOk P n S U):ArmOk P n (arm (R:=R) S U):=by
 intro vs m K r h1
 obtain ⟨s,h2,h3⟩:=Option.bind_eq_some_iff.1 h1
 exact ⟨_,_,h3,fun K' => by simp only [arm,h2,Option.bind_some],h _ _ _ h2⟩
structure Cs (P:Program) where
 call:{R:Type} → Fun R
 ok:∀ {R:Type},CallOk P (call (R:=R))
def cN {P:Program}:Cs P:=⟨callNil,callOk_nil⟩
def cC {P:Program} {n:Nat} {ρ:Type} {S:Shape ρ} {U:List Value → Mem → Option ρ} (h:FOk P n S U) (c:Cs P):Cs P:=⟨callCons n (arm S U) c.call,callOk_cons (armOk h) c.ok⟩
def chk (F:Func) (n:Nat):Bool:=F.body.isSome && (!(F.name == "runtime.NumGoroutine") && (dokC F.ntmps (body F) && Nat.ble n F.ntmps))
def chk0 (F:Func) (n:Nat):Bool:=chk F n && ((loopsOf 0 (body F)).isEmpty && (rangesOf 0 (body F)).isEmpty)
theorem fnOk {P:Program} {ρ:Type} {S:Shape ρ} {F:Func} {n:Nat} {C:Ctx ρ} (cs:Cs P) (hT:TOk P C.T) (hm:P.follows .mixedOrders = true) (hC:C.call = cs.call) (hf:P.funcs[n]? = some F) {args:List Value} {m:Mem} {r:ρ} (hc:chk F args.length = true)
 (hl:∀ p ∈ loopsOf 0 (body F),LoopOk C p.1 p.2) (hg:∀ p ∈ rangesOf 0 (body F),RangeOk P C p.1 p.2) (h:fnX C F args m S.dec = some r):CallP P n args m fun v m' => v = S.enc r ∧ m' = S.mem r:=by
 unfold chk at hc
 simp only [Bool.and_eq_true,Bool.not_eq_true'] at hc
 obtain ⟨h1,h2,h3,h4⟩:=hc
 have hb:F.body = some (body F):=by
  unfold body
  cases hF:F.body with
  | none => rw [hF] at h1;cases h1
  | some c => rfl
 exact (fn_sound hT hm (by rw [hC];exact cs.ok) hf hb h2 h3 h4 hl hg h).mono fun v m' hp => S.ok _ _ _ hp
theorem fnOk0 {P:Program} {ρ:Type} {S:Shape ρ} {F:Func} {n:Nat} {T:TT} (hT:TOk P T) (hm:P.follows .mixedOrders = true) (cs:Cs P) (hf:P.funcs[n]? = some F) {args:List Value} {m:Mem} {r:ρ} (hc:chk0 F args.length = true)
 (h:fnX ⟨T,cs.call,fun _ _ _ _ => none,[],[]⟩ F args m S.dec = some r):CallP P n args m fun v m' => v = S.enc r ∧ m' = S.mem r:=by
 unfold chk0 at hc
 simp only [Bool.and_eq_true,List.isEmpty_iff] at hc
 obtain ⟨h1,h2,h3⟩:=hc
 exact fnOk cs hT hm rfl hf h1 (fun p hp => by rw [h2] at hp;cases hp) (fun p hp => by rw [h3] at hp;cases hp) h
def lpOf {R:Type} (l:List (Nat × ((Nat → List Value → Mem → Option R) → List Value → Mem → Option R))):Nat → List Value → Mem → (Nat → List Value → Mem → Option R) → Option R:=fun cur vs m K => match lk cur l with
 | some g => g K vs m
 | none => none
noncomputable def lpc (F:Func) (i:Nat):Code:=((loopsOf 0 (body F)).getD i (0,.skip)).2
theorem lpOk {R:Type} {C:Ctx R} {cur k:Nat} {c:Code} (ls:List Nat) (L:(Nat → List Value → Mem → Option R) → Nat → List Value → Mem → Option R) (hl:lk cur C.heads = some ls) (h1:∀ K vs m,C.loop cur vs m K = L K k vs m)
 (h:∀ K n vs m r,L K n vs m = some r → ∃ n',n = n' + 1 ∧ exec C cur c (ls.zip vs) m (goOn ls C.outs (L K n') K) = some r):LoopOk C cur c :=
 ⟨ls,hl,fun K r => ⟨L K,fun vs m h2 => ⟨k,by rw [← h1];exact h2⟩,fun n vs m h2 => h K n vs m r h2⟩⟩
def LpsAll {R:Type} (C:Ctx R) (F:Func):List Nat → Nat → Prop
 | [],_ => True
 | c :: cs,i => LoopOk C c (lpc F i) ∧ LpsAll C F cs (i + 1)
theorem lpsAll_get {R:Type} {C:Ctx R} {F:Func}:∀ {cs:List Nat} {i:Nat},LpsAll C F cs i → ∀ j c,cs[j]? = some c → LoopOk C c (lpc F (i + j))
 | [],_,_,j,c,h => by simp at h
 | d :: cs,i,H,0,c,h => by simp only [List.getElem?_cons_zero,Option.some.injEq] at h;subst h;exact H.1
 | d :: cs,i,H,j + 1,c,h => by
  rw [List.getElem?_cons_succ] at h
  have:=lpsAll_get H.2 j c h
  rwa [show i + 1 + j = i + (j + 1) by omega] at this
theorem lps {R:Type} {C:Ctx R} {F:Func} {cs:List Nat} (h:(loopsOf 0 (body F)).map (·.1) = cs) (H:LpsAll C F cs 0):∀ p ∈ loopsOf 0 (body F),LoopOk C p.1 p.2:=by
 intro p hp
 obtain ⟨j,hj⟩:=List.mem_iff_getElem?.1 hp
 have h1:cs[j]? = some p.1:=by rw [← h,List.getElem?_map,hj];rfl
 have h2:=lpsAll_get H j _ h1
 rw [Nat.zero_add] at h2
 have h3:lpc F j = p.2:=by unfold lpc;rw [List.getD_eq_getElem?_getD,hj];rfl
 rwa [h3] at h2
theorem noRanges {R:Type} {P:Program} {C:Ctx R} {F:Func} (h:(rangesOf 0 (body F)).isEmpty = true):∀ p ∈ rangesOf 0 (body F),RangeOk P C p.1 p.2:=by
 intro p hp;rw [List.isEmpty_iff.1 h] at hp;cases hp
theorem noLoops {R:Type} {C:Ctx R} {F:Func} (h:(loopsOf 0 (body F)).isEmpty = true):∀ p ∈ loopsOf 0 (body F),LoopOk C p.1 p.2:=by
 intro p hp;rw [List.isEmpty_iff.1 h] at hp;cases hp
set_option linter.defProp false in
def SX:=And.intro @Option.bind_some.{0,0} <| And.intro @Option.map_some.{0,0} <| And.intro @cond_true.{1} <| And.intro @cond_false.{1} <| And.intro @wrap_i64 <| And.intro @tmod_pos <| And.intro @tdiv_pos <| And.intro @inRange_yes <| And.intro @inUpto_yes <| And.intro @isZero_no <| And.intro @decide_eq_true <| And.intro @decide_eq_false <|
 And.intro Bool.not_true <| And.intro Bool.not_false <| And.intro Int.toNat_natCast <| And.intro Nat.mul_one <| And.intro @beqI_yes <| And.intro @beqI_no <| And.intro @bneI_yes <| And.intro @bneI_no <| And.intro isNil_nil <| And.intro @isNil_iface <| And.intro @wr_wr <| And.intro @Option.isNone_none.{0} <| And.intro @Option.isNone_some.{0} <| And.intro Nat.zero_add Nat.add_zero
end Go.Mx
