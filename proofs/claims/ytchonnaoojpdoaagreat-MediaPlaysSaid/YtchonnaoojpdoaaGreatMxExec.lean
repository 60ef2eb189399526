import Derived.Test.YtchonnaoojpdoaaGreatMxTy
import Derived.Test.YtchonnaoojpdoaaGreatMxOps7
import Derived.Scope
import Derived.RangeFuncLeaves
import Derived.RangeFuncSeq
import Derived.OrdersIn
import Derived.TacticsIn
import Derived.Orders
import Derived.RangeFuncRecord
import Derived.RangeFuncOwn
set_option linter.unusedVariables false
set_option linter.unusedSimpArgs false
namespace Go.Mx
variable {R:Type}
theorem bind_one {α β:Type} {o:Option α} {g:α → β} {K:β → Option R} {r:R} (h:(o.bind fun x => K (g x)) = some r):∃ y,K y = some r ∧ ∀ K':β → Option R,(o.bind fun x => K' (g x)) = K' y:=by
 obtain ⟨x,h1,h2⟩:=Option.bind_eq_some_iff.1 h
 exact ⟨g x,h2,fun K' => by simp [h1]⟩
theorem getT_one {T:TT} {t:Nat} {cs:List Value} {i:Nat} {K:Value → Option R} {r:R} (h:getT T t cs i K = some r):∃ v,K v = some r ∧ ∀ K':Value → Option R,getT T t cs i K' = K' v:=by
 unfold getT at h ⊢
 cases hd:(T t).d <;> simp only [hd] at h ⊢ <;> first | exact bind_one h | exact bind_one (g:=fun x => x) h | cases h
theorem ldT_one {T:TT} {t:Nat} {m:Mem} {a:Addr} {K:Value → Option R} {r:R} (h:ldT T t m a K = some r):∃ v,K v = some r ∧ ∀ K':Value → Option R,ldT T t m a K' = K' v:=by
 unfold ldT at h ⊢
 cases hd:(T t).d <;> simp only [hd] at h ⊢ <;> first | exact bind_one h | exact bind_one (g:=fun x => x) h | cases h
theorem none_one {β:Type} {f:(β → Option R) → Option R} {K:β → Option R} {r:R} (h:(none:Option R) = some r):∃ y,K y = some r ∧ ∀ K':β → Option R,f K' = K' y:=by cases h
theorem cond_one {β:Type} {b:Bool} {y:β} {K:β → Option R} {r:R} (h:(bif b then K y else none) = some r):∃ z,K z = some r ∧ ∀ K':β → Option R,(bif b then K' y else none) = K' z:=by
 cases b
 ·cases h
 ·exact ⟨y,h,fun _ => rfl⟩
theorem ncond_one {β:Type} {b:Bool} {y:β} {K:β → Option R} {r:R} (h:(bif b then none else K y) = some r):∃ z,K z = some r ∧ ∀ K':β → Option R,(bif b then none else K' y) = K' z:=by
 cases b
 ·exact ⟨y,h,fun _ => rfl⟩
 ·cases h
theorem condbind_one {β:Type} {b:Bool} {o:Option β} {K:β → Option R} {r:R} (h:(bif b then o.bind K else none) = some r):∃ y,K y = some r ∧ ∀ K':β → Option R,(bif b then o.bind K' else none) = K' y:=by
 cases b
 ·cases h
 ·exact bind_one (g:=fun x => x) h
theorem cellsT_one {T:TT} {t:Nat} {v:Value} {K:List Value → Option R} {r:R} (h:cellsT T t v K = some r):∃ v',K v' = some r ∧ ∀ K':List Value → Option R,cellsT T t v K' = K' v':=by
 unfold cellsT at h ⊢
 cases hd:(T t).d <;> simp only [hd] at h ⊢ <;> first | exact cond_one h | (cases v <;> simp only at h ⊢ <;> first | exact cond_one h | exact ⟨_,h,fun _ => rfl⟩ | exact none_one h) | exact none_one h
theorem stT_one {T:TT} {t:Nat} {m:Mem} {a:Addr} {v:Value} {K:Mem → Option R} {r:R} (h:stT T t m a v K = some r):∃ m',K m' = some r ∧ ∀ K':Mem → Option R,stT T t m a v K' = K' m':=by
 unfold stT at h ⊢
 cases hd:(T t).d <;> simp only [hd] at h ⊢ <;> first | exact condbind_one h | (cases v <;> simp only at h ⊢ <;> first | exact condbind_one h | exact bind_one (g:=fun x => x) h | exact none_one h) | exact none_one h
theorem binI_one {op:BinOp} {k:IntKind} {x y:Int} {K:Value → Option R} {r:R} (h:binI op k x y K = some r):∃ v,K v = some r ∧ ∀ K':Value → Option R,binI op k x y K' = K' v:=by
 unfold binI at h ⊢
 cases op <;> simp only at h ⊢ <;> first | exact ⟨_,h,fun _ => rfl⟩ | exact ncond_one h
theorem fillS_one {T:TT} {fs:List (Nat × Nat)} {e:Env} {N:Nat} {K:List Value → Option R} {r:R}:∀ {ps:List (Nat × Operand)} {cs:List Value},fillS T fs e N ps cs K = some r → ∃ v,K v = some r ∧ ∀ K':List Value → Option R,fillS T fs e N ps cs K' = K' v
 | [],cs,h => ⟨cs,h,fun _ => rfl⟩
 | (i,x) :: ps,cs,h => by
  simp only [fillS,gN_eq] at h ⊢
  cases h1:fs[i]? with
  | none => simp [h1] at h
  | some p =>
   obtain ⟨t,off⟩:=p
   cases h2:opnd e x with
   | none => simp [h1,h2] at h
   | some v =>
    simp only [h1,h2] at h ⊢
    obtain ⟨vs,h3,h4⟩:=cellsT_one h
    simp only [h4]
    cases hb:Nat.ble (off + (T t).size) N with
    | false => rw [hb] at h3;cases h3
    | true => rw [hb] at h3;exact fillS_one h3
theorem fillA_one {T:TT} {t:Nat} {e:Env} {N:Nat} {K:List Value → Option R} {r:R}:∀ {ps:List (Nat × Operand)} {cs:List Value},fillA T t e N ps cs K = some r → ∃ v,K v = some r ∧ ∀ K':List Value → Option R,fillA T t e N ps cs K' = K' v
 | [],cs,h => ⟨cs,h,fun _ => rfl⟩
 | (i,x) :: ps,cs,h => by
  simp only [fillA,gN_eq] at h ⊢
  cases h2:opnd e x with
  | none => simp [h2] at h
  | some v =>
   simp only [h2] at h ⊢
   obtain ⟨vs,h3,h4⟩:=cellsT_one h
   simp only [h4]
   cases hb:Nat.ble (i * (T t).size + (T t).size) N with
   | false => rw [hb] at h3;cases h3
   | true => rw [hb] at h3;exact fillA_one h3
theorem binV_one {T:TT} {d:TD} {eq:Option (List EK)} {op:BinOp} {x y:Value} {yn:Bool} {K:Value → Option R} {r:R} (h:binV T d eq op x y yn K = some r):∃ v,K v = some r ∧ ∀ K':Value → Option R,binV T d eq op x y yn K' = K' v:=by
 unfold binV at h ⊢
 split at h
 ·split at h
  ·split at h
   ·exact binI_one h
   ·exact binI_one h
   ·split at h
    ·rename_i hk
     obtain ⟨v,h1,h2⟩:=binI_one h
     refine ⟨v,h1,fun K' => ?_⟩
     rw [if_pos hk]
     exact h2 K'
    ·exact none_one h
  ·exact none_one h
 ·split at h
  ·split at h <;> first | exact ⟨_,h,fun _ => rfl⟩ | exact none_one h
  ·exact none_one h
 ·split at h <;> first | exact ⟨_,h,fun _ => rfl⟩ | exact none_one h
 ·split at h <;> first | exact ⟨_,h,fun _ => rfl⟩ | exact none_one h
 ·split at h <;> first | exact ⟨_,h,fun _ => rfl⟩ | exact none_one h
 ·split at h
  ·obtain ⟨ks,h1,h2⟩:=Option.bind_eq_some_iff.1 h
   obtain ⟨c,h3,h4⟩:=Option.bind_eq_some_iff.1 h2
   exact ⟨_,h4,fun K' => by simp [h1,h3]⟩
  ·obtain ⟨ks,h1,h2⟩:=Option.bind_eq_some_iff.1 h
   obtain ⟨c,h3,h4⟩:=Option.bind_eq_some_iff.1 h2
   exact ⟨_,h4,fun K' => by simp [h1,h3]⟩
  ·exact none_one h
 ·split at h
  ·obtain ⟨ks,h1,h2⟩:=Option.bind_eq_some_iff.1 h
   obtain ⟨c,h3,h4⟩:=Option.bind_eq_some_iff.1 h2
   exact ⟨_,h4,fun K' => by simp [h1,h3]⟩
  ·obtain ⟨ks,h1,h2⟩:=Option.bind_eq_some_iff.1 h
   obtain ⟨c,h3,h4⟩:=Option.bind_eq_some_iff.1 h2
   exact ⟨_,h4,fun K' => by simp [h1,h3]⟩
  ·exact none_one h
 ·split at h <;> first | (cases yn <;> exact bind_one h) | exact none_one h
 ·exact none_one h
theorem sliceG_one {p:Option Addr} {n c z:Nat} {arr:Bool} {lo hi mx:Option Value} {K:Value → Option R} {r:R} (h:sliceK.go p n c z arr K lo hi mx = some r):∃ v,K v = some r ∧ ∀ K':Value → Option R,sliceK.go p n c z arr K' lo hi mx = K' v:=by
 unfold sliceK.go at h ⊢
 split at h <;> first | exact ⟨_,h,fun _ => rfl⟩ | exact none_one h | exact cond_one h
theorem sliceK_one {T:TT} {t:Nat} {x:Value} {lo hi mx:Option Value} {K:Value → Option R} {r:R} (h:sliceK T t x lo hi mx K = some r):∃ v,K v = some r ∧ ∀ K':Value → Option R,sliceK T t x lo hi mx K' = K' v:=by
 unfold sliceK at h ⊢
 split at h
 ·rename_i hd
  skip
  split at h <;> first | exact ⟨_,h,fun _ => rfl⟩ | exact none_one h | exact cond_one h
 ·rename_i hd;exact sliceG_one h
 ·rename_i hd;exact sliceG_one h
 ·exact none_one h
def CallDet (call:Fun R):Prop:=∀ f vs m K r,call f vs m K = some r → ∃ v m',K v m' = some r ∧ ∀ K',call f vs m K' = K' v m'
theorem oper_one {C:Ctx R} (hc:CallDet C.call) {op:Op} {e:Env} {m:Mem} {K:Value → Mem → Option R} {r:R} (h:oper C op e m K = some r) :
 ∃ v m',K v m' = some r ∧ (effB op = false → m' = m) ∧ ∀ K',oper C op e m K' = K' v m':=by
 have keep:∀ {f:(Value → Option R) → Option R},(∃ v,K v m = some r ∧ ∀ K':Value → Option R,f K' = K' v) → ∃ v m',K v m' = some r ∧ (effB op = false → m' = m) ∧ ∀ K':Value → Mem → Option R,f (fun v => K' v m) = K' v m' :=
  fun ⟨v,h1,h2⟩ => ⟨v,m,h1,fun _ => rfl,fun K' => h2 _⟩
 cases op <;> try (simp only [oper,reduceCtorEq] at h;done)
 case move x => simp only [oper] at h ⊢;cases hx:opnd e x <;> simp only [hx] at h ⊢ <;> first | exact ⟨_,_,h,fun _ => rfl,fun _ => rfl⟩ | cases h
 case assign x => simp only [oper] at h ⊢;cases hx:opnd e x <;> simp only [hx] at h ⊢ <;> first | exact ⟨_,_,h,fun _ => rfl,fun _ => rfl⟩ | cases h
 case pick c a b =>
  simp only [oper] at h ⊢
  split at h
  ·rename_i t ht
   cases t
   ·simp only [cond_false] at h ⊢;cases hx:opnd e b <;> simp only [hx] at h ⊢ <;> first | exact ⟨_,_,h,fun _ => rfl,fun _ => rfl⟩ | cases h
   ·simp only [cond_true] at h ⊢;cases hx:opnd e a <;> simp only [hx] at h ⊢ <;> first | exact ⟨_,_,h,fun _ => rfl,fun _ => rfl⟩ | cases h
  ·cases h
 case alloc t => simp only [oper] at h ⊢;split at h <;> first | cases h | exact ⟨_,_,h,fun hh => by simp [effB] at hh,fun _ => rfl⟩
 case box t x =>
  simp only [oper] at h ⊢
  split at h
  ·obtain ⟨v,h1,h2⟩:=cellsT_one h
   exact ⟨_,_,h1,fun hh => by simp [effB] at hh,fun K' => h2 _⟩
  ·cases h
 case build t ps =>
  simp only [oper] at h ⊢
  split at h
  ·exact keep (f:=fun K => fillS _ _ _ _ _ _ fun cs => K (.agg ⟨cs⟩)) (by obtain ⟨v,h1,h2⟩:=fillS_one h;exact ⟨_,h1,fun K' => h2 _⟩)
  ·exact keep (f:=fun K => fillA _ _ _ _ _ _ fun cs => K (.agg ⟨cs⟩)) (by obtain ⟨v,h1,h2⟩:=fillA_one h;exact ⟨_,h1,fun K' => h2 _⟩)
  ·cases h
 case buildSlice t n ps =>
  simp only [oper] at h ⊢
  split at h
  ·generalize hb:Nat.ble _ _ = b at h ⊢
   cases b
   ·cases h
   ·obtain ⟨v,h1,h2⟩:=fillA_one h;exact ⟨_,_,h1,fun hh => by simp [effB] at hh,fun K' => h2 _⟩
  ·cases h
 case load t x =>
  simp only [oper] at h ⊢
  split at h
  ·exact keep (f:=fun K => ldT _ _ _ _ fun v => K v) (ldT_one h)
  ·cases h
 case store t x y =>
  simp only [oper] at h ⊢
  split at h
  ·obtain ⟨v,h1,h2⟩:=stT_one h;exact ⟨_,_,h1,fun hh => by simp [effB] at hh,fun K' => h2 _⟩
  ·cases h
 case nilCheck x =>
  simp only [oper] at h ⊢
  split at h
  ·exact keep (f:=fun K => Option.bind _ fun a => K _) (bind_one h)
  ·cases h
 case fieldAddr t x i =>
  simp only [oper] at h ⊢
  split at h
  ·split at h
   ·generalize hb:Nat.beq _ _ = b at h ⊢
    cases b
    ·exact ⟨_,_,h,fun _ => rfl,fun _ => rfl⟩
    ·cases h
   ·cases h
  ·cases h
 case field t x i =>
  simp only [oper] at h ⊢
  split at h
  ·split at h
   ·exact keep (f:=fun K => getT _ _ _ _ fun v => K v) (getT_one h)
   ·cases h
  ·cases h
 case indexAddr t x i =>
  simp only [oper] at h ⊢
  split at h
  ·exact keep (f:=fun K => bif _ then K _ else none) (cond_one h)
  ·generalize hb:inRange _ _ = b at h ⊢
   cases b
   ·cases h
   ·obtain ⟨a,ha,h1⟩:=Option.bind_eq_some_iff.1 h
    exact ⟨_,_,h1,fun _ => rfl,fun K' => by simp [ha]⟩
  ·cases h
 case index t x i =>
  simp only [oper] at h ⊢
  split at h
  ·refine keep (f:=fun K => bif _ then getT _ _ _ _ (fun v => K v) else none) ?_
   generalize hb:inRange _ _ = b at h ⊢
   cases b
   ·cases h
   ·exact getT_one h
  ·exact keep (f:=fun K => bif _ then K _ else none) (cond_one h)
  ·cases h
 case binOp o t x y u =>
  simp only [oper] at h ⊢
  split at h
  ·exact keep (f:=fun K => binV _ _ _ _ _ _ _ fun v => K v) (binV_one h)
  ·cases h
 case unOp o t x =>
  simp only [oper] at h ⊢
  split at h <;> first | exact ⟨_,_,h,fun _ => rfl,fun _ => rfl⟩ | cases h
 case convert s t x =>
  simp only [oper] at h ⊢
  split at h
  ·exact ⟨_,_,h,fun _ => rfl,fun _ => rfl⟩
  ·exact ⟨_,_,h,fun _ => rfl,fun _ => rfl⟩
  ·generalize hb:isU8 _ = b at h ⊢
   cases b
   ·cases h
   ·obtain ⟨x,h1,h2⟩:=Option.bind_eq_some_iff.1 h
    obtain ⟨y,h3,h4⟩:=Option.bind_eq_some_iff.1 h2
    exact ⟨_,_,h4,fun _ => rfl,fun K' => by simp [h1,h3]⟩
  ·cases h
 case makeFunc fn fs cs =>
  simp only [oper] at h ⊢
  split at h <;> first | exact ⟨_,_,h,fun _ => rfl,fun _ => rfl⟩ | cases h
 case makeInterface t x =>
  simp only [oper] at h ⊢
  split at h <;> first | exact ⟨_,_,h,fun _ => rfl,fun _ => rfl⟩ | cases h
 case makeSlice t l c =>
  simp only [oper] at h ⊢
  split at h
  ·generalize hb:(_ && _ && _ && _:Bool) = b at h ⊢
   cases b
   ·cases h
   ·exact ⟨_,_,h,fun hh => by simp [effB] at hh,fun _ => rfl⟩
  ·cases h
 case slice t x lo hi mx =>
  simp only [oper] at h ⊢
  split at h
  ·exact keep (f:=fun K => sliceK _ _ _ _ _ _ fun v => K v) (sliceK_one h)
  ·cases h
 case extract x i =>
  simp only [oper] at h ⊢
  split at h
  ·split at h
   ·exact ⟨_,_,h,fun _ => rfl,fun _ => rfl⟩
   ·cases h
  ·cases h
 case call c =>
  have rest:∀ (b:Builtin),c.callee = .builtin b → (b = .len ∨ b = .min ∨ b = .max ∨ b = .append ∨ b = .copy):=by
   intro b hb
   simp only [oper,hb] at h
   cases b <;> first | (simp only [reduceCtorEq] at h;done) | simp
  cases hcl:c.callee with
  | value x =>
   simp only [oper,hcl] at h ⊢
   cases x <;> simp only at h ⊢ <;> first | cases h | skip
   all_goals
    split at h
    ·obtain ⟨v,m',h1,h2⟩:=hc _ _ _ _ _ h
     exact ⟨v,m',h1,fun hh => by simp [effB,hcl] at hh,h2⟩
    ·cases h
  | invoke x y => simp [oper,hcl] at h
  | builtin b =>
   rcases rest b hcl with rfl | rfl | rfl | rfl | rfl <;> simp only [oper,hcl] at h ⊢
   ·split at h
    ·split at h <;> first | exact ⟨_,_,h,fun _ => rfl,fun _ => rfl⟩ | cases h
    ·cases h
   ·split at h
    ·split at h
     ·rename_i hk;exact ⟨_,_,h,fun _ => rfl,fun _ => by rw [if_pos hk]⟩
     ·cases h
    ·cases h
   ·split at h
    ·split at h
     ·rename_i hk;exact ⟨_,_,h,fun _ => rfl,fun _ => by rw [if_pos hk]⟩
     ·cases h
    ·cases h
   ·split at h
    ·split at h
     ·generalize hb:notInt _ = b at h ⊢
      cases b
      ·cases h
      ·obtain ⟨x,h1,h2⟩:=Option.bind_eq_some_iff.1 h
       obtain ⟨y,h3,h4⟩:=Option.bind_eq_some_iff.1 h2
       exact ⟨_,_,h4,fun hh => by simp [effB,hcl] at hh,fun K' => by simp [h1,h3]⟩
     ·generalize hb:(_ && _:Bool) = b at h ⊢
      cases b
      ·cases h
      ·obtain ⟨y,h3,h4⟩:=Option.bind_eq_some_iff.1 h
       exact ⟨_,_,h4,fun hh => by simp [effB,hcl] at hh,fun K' => by simp [h3]⟩
     ·generalize hb:(_ && _:Bool) = b at h ⊢
      cases b
      ·cases h
      ·obtain ⟨y,h3,h4⟩:=Option.bind_eq_some_iff.1 h
       exact ⟨_,_,h4,fun hh => by simp [effB,hcl] at hh,fun K' => by simp [h3]⟩
     ·cases h
    ·cases h
   ·split at h
    ·split at h
     ·obtain ⟨x,h1,h2⟩:=Option.bind_eq_some_iff.1 h
      obtain ⟨y,h3,h4⟩:=Option.bind_eq_some_iff.1 h2
      exact ⟨_,_,h4,fun hh => by simp [effB,hcl] at hh,fun K' => by simp [h1,h3]⟩
     ·generalize hb:Nat.beq _ _ = b at h ⊢
      cases b
      ·cases h
      ·obtain ⟨y,h3,h4⟩:=Option.bind_eq_some_iff.1 h
       exact ⟨_,_,h4,fun hh => by simp [effB,hcl] at hh,fun K' => by simp [h3]⟩
     ·cases h
    ·cases h
theorem oper_pure {C:Ctx R} {op:Op} {e:Env} {m m2:Mem} {K:Value → Mem → Option R} (h1:effB op = false) (h2:loadB op = false) (h3:pureConv C.T op = true):oper C op e m2 K = oper C op e m fun v _ => K v m2:=by
 by_cases hcv:∃ s t x,op = .convert s t x
 ·obtain ⟨s,t,x,rfl⟩:=hcv
  simp only [pureConv] at h3
  simp only [oper]
  split at h3
  ·cases h3
  ·rename_i hn
   cases hs:(C.T s).d <;> cases ht:(C.T t).d <;> first | rfl | (exact absurd ht (hn _ hs)) | (cases opnd e x with
    | none => rfl
    | some v => cases v <;> rfl)
 cases op <;> first | rfl | (simp only [effB,loadB,reduceCtorEq] at h1 h2;done) | exact absurd ⟨_,_,_,rfl⟩ hcv | skip
 case call c =>
  cases hcl:c.callee with
  | value x => simp [effB,hcl] at h1
  | invoke x y => simp [effB,hcl] at h1
  | builtin b => cases b <;> first | (simp [effB,hcl] at h1;done) | (simp only [oper,hcl])
theorem opnds_env {e e':Env}:∀ {l:List Operand},(∀ x ∈ l,opnd e x = opnd e' x) → opnds e l = opnds e' l
 | [],_ => rfl
 | x :: l,h => by simp only [opnds,h x (by simp),opnds_env (l:=l) fun y hy => h y (List.mem_cons_of_mem _ hy)]
theorem fillS_env {T:TT} {fs:List (Nat × Nat)} {e e':Env} {N:Nat} {K:List Value → Option R}:∀ {ps:List (Nat × Operand)} {cs:List Value},(∀ p ∈ ps,opnd e p.2 = opnd e' p.2) → fillS T fs e N ps cs K = fillS T fs e' N ps cs K
 | [],cs,_ => rfl
 | (i,x) :: ps,cs,h => by
  simp only [fillS,gN_eq,h (i,x) (by simp)]
  simp only [fillS_env fun p hp => h p (List.mem_cons_of_mem _ hp)]
theorem fillA_env {T:TT} {t:Nat} {e e':Env} {N:Nat} {K:List Value → Option R}:∀ {ps:List (Nat × Operand)} {cs:List Value},(∀ p ∈ ps,opnd e p.2 = opnd e' p.2) → fillA T t e N ps cs K = fillA T t e' N ps cs K
 | [],cs,_ => rfl
 | (i,x) :: ps,cs,h => by
  simp only [fillA,gN_eq,h (i,x) (by simp)]
  simp only [fillA_env fun p hp => h p (List.mem_cons_of_mem _ hp)]
theorem opO_env {e e':Env} {o:Option Operand} (h:∀ x ∈ o.toList,opnd e x = opnd e' x):opO e o = opO e' o:=by
 cases o with
 | none => rfl
 | some x => simp only [opO,h x (by simp)]
theorem oper_env {C:Ctx R} {op:Op} {e e':Env} {m:Mem} {K:Value → Mem → Option R} (h:∀ x ∈ op.operands.toList,opnd e x = opnd e' x):oper C op e m K = oper C op e' m K:=by
 cases op <;> try rfl
 case move x => simp only [oper,h x (by simp [Op.operands])]
 case assign x => simp only [oper,h x (by simp [Op.operands])]
 case pick c a b => simp only [oper,h a (by simp [Op.operands]),h b (by simp [Op.operands]),h c (by simp [Op.operands])]
 case box t x => simp only [oper,h x (by simp [Op.operands])]
 case build t ps =>
  have:∀ p ∈ ps.toList,opnd e p.2 = opnd e' p.2:=fun p hp => h p.2 (by simp only [Op.operands];exact List.mem_map.2 ⟨p,hp,rfl⟩)
  simp only [oper,fillS_env this,fillA_env this]
 case buildSlice t n ps =>
  have:∀ p ∈ ps.toList,opnd e p.2 = opnd e' p.2:=fun p hp => h p.2 (by simp only [Op.operands];exact List.mem_map.2 ⟨p,hp,rfl⟩)
  simp only [oper,fillA_env this]
 case load t x => simp only [oper,h x (by simp [Op.operands])]
 case store t x y => simp only [oper,h x (by simp [Op.operands]),h y (by simp [Op.operands])]
 case nilCheck x => simp only [oper,h x (by simp [Op.operands])]
 case fieldAddr t x i => simp only [oper,h x (by simp [Op.operands])]
 case field t x i => simp only [oper,h x (by simp [Op.operands])]
 case indexAddr t x y => simp only [oper,h x (by simp [Op.operands]),h y (by simp [Op.operands])]
 case index t x y => simp only [oper,h x (by simp [Op.operands]),h y (by simp [Op.operands])]
 case binOp o t x y u => simp only [oper,h x (by simp [Op.operands]),h y (by simp [Op.operands])]
 case unOp o t x => simp only [oper,h x (by simp [Op.operands])]
 case convert s t x => simp only [oper,h x (by simp [Op.operands])]
 case makeInterface t x => simp only [oper,h x (by simp [Op.operands])]
 case makeFunc fn fs cs => simp only [oper,opnds_env (l:=fs.toList) fun x hx => h x (by simp [Op.operands] at hx ⊢;simp [hx]),opnds_env (l:=cs.toList) fun x hx => h x (by simp [Op.operands] at hx ⊢;simp [hx])]
 case makeSlice t x y => simp only [oper,h x (by simp [Op.operands]),h y (by simp [Op.operands])]
 case slice t x lo hi mx =>
  simp only [oper,h x (by simp [Op.operands])]
  rw [opO_env (e:=e) (e':=e') (o:=lo) fun y hy => h y (by simp [Op.operands] at hy ⊢;simp [hy]),opO_env (e:=e) (e':=e') (o:=hi) fun y hy => h y (by simp [Op.operands] at hy ⊢;simp [hy]),opO_env (e:=e) (e':=e') (o:=mx) fun y hy => h y (by simp [Op.operands] at hy ⊢;simp [hy])]
 case extract x i => simp only [oper,h x (by simp [Op.operands])]
 case call c =>
  have:opnds e c.args.toList = opnds e' c.args.toList:=opnds_env fun x hx => h x (by
   cases hcl:c.callee <;> simp [Op.operands,Call.operands,hcl] at hx ⊢ <;> simp [hx])
  cases hcl:c.callee with
  | builtin b => simp only [oper,hcl,this];cases b <;> rfl
  | invoke x y => simp only [oper,hcl]
  | value x =>
   cases x with
   | tmp t =>
    have ht:=h (.tmp t) (by simp [Op.operands,Call.operands,hcl])
    simp only [opnd] at ht
    simp only [oper,hcl,this,ht]
   | const v => simp only [oper,hcl]
   | global g => simp only [oper,hcl]
   | func f => simp only [oper,hcl,this]
end Go.Mx
set_option linter.unusedVariables false
set_option linter.unusedSimpArgs false
namespace Go.Mx
def Gives (P:Program) (Q:Value → World → Prop):Result Next → Prop
 | .ok (.value v) w => Q v w
 | .ok (.enter f args) w => Calls P f args w fun en w' => ∃ v,en = .returned v ∧ Q v w'
 | .ok (.row row args) w => Rows P row args w Q
 | _ => False
theorem Gives.mono {P:Program} {Q Q':Value → World → Prop} {x:Result Next} (h:Gives P Q x) (hq:∀ v w,Q v w → Q' v w):Gives P Q' x:=by
 unfold Gives at *
 split at h
 ·exact hq _ _ h
 ·exact h.mono fun en w' ⟨v,a,b⟩ => ⟨v,a,hq _ _ b⟩
 ·exact h.mono hq
 ·exact h.elim
def CallP (P:Program) (f:FuncId) (vs:List Value) (m:Mem) (Post:Value → Mem → Prop):Prop :=
 ∀ (ρ:Rn) (w:World) (args:List Value),MRep ρ m w → args.length = vs.length → (∀ (i:Nat) v,vs[i]? = some v → ∃ v',args[i]? = some v' ∧ VR ρ m.length v v') →
  Gives P (fun v' w' => ∃ v m' ρ',Post v m' ∧ VR ρ' m'.length v v' ∧ MRep ρ' m' w' ∧ Evo ρ m w ρ' m' w') ((callFunc f ⟨args⟩).run P w)
theorem CallP.mono {P f vs m} {Post Post':Value → Mem → Prop} (h:CallP P f vs m Post) (hp:∀ v m',Post v m' → Post' v m'):CallP P f vs m Post' :=
 fun ρ w args h1 h2 h3 => (h ρ w args h1 h2 h3).mono fun v' w' ⟨v,m',ρ',b,c,d,e⟩ => ⟨v,m',ρ',hp _ _ b,c,d,e⟩
theorem callFunc_body {P:Program} {f:FuncId} {fn:Func} (h1:P.funcs[f]? = some fn) (h2:(fn.name == "runtime.NumGoroutine") = false) (h3:fn.body.isSome = true) (args:Array Value) (w:World):(callFunc f args).run P w = .ok (.enter f args) w:=by
 have h3':fn.body ≠ none:=by
  intro hb;simp [hb] at h3
 have h2':fn.name ≠ "runtime.NumGoroutine" := by simpa using h2
 simp [callFunc,h1,h2',h3']
theorem CallP.calls {P:Program} {f:FuncId} {fn:Func} {vs:List Value} {m:Mem} {Post:Value → Mem → Prop} (h:CallP P f vs m Post) (h1:P.funcs[f]? = some fn) (h2:(fn.name == "runtime.NumGoroutine") = false) (h3:fn.body.isSome = true)
 {ρ:Rn} {w:World} {args:List Value} (hm:MRep ρ m w) (hl:args.length = vs.length) (ha:∀ (i:Nat) v,vs[i]? = some v → ∃ v',args[i]? = some v' ∧ VR ρ m.length v v') :
 Calls P f ⟨args⟩ w fun en w' => ∃ v m' v' ρ',en = .returned v' ∧ Post v m' ∧ VR ρ' m'.length v v' ∧ MRep ρ' m' w' ∧ Evo ρ m w ρ' m' w':=by
 have:=h ρ w args hm hl ha
 rw [callFunc_body h1 h2 h3] at this
 exact Calls.mono this fun en w' ⟨v',he,v,m',ρ',a,b,c,d⟩ => ⟨v,m',v',ρ',he,a,b,c,d⟩
theorem CallP.of_calls {P:Program} {f:FuncId} {fn:Func} {vs:List Value} {m:Mem} {Post:Value → Mem → Prop} (h1:P.funcs[f]? = some fn) (h2:(fn.name == "runtime.NumGoroutine") = false) (h3:fn.body.isSome = true)
 (h:∀ (ρ:Rn) (w:World) (args:List Value),MRep ρ m w → args.length = vs.length → (∀ (i:Nat) v,vs[i]? = some v → ∃ v',args[i]? = some v' ∧ VR ρ m.length v v') →
   Calls P f ⟨args⟩ w fun en w' => ∃ v m' v' ρ',en = .returned v' ∧ Post v m' ∧ VR ρ' m'.length v v' ∧ MRep ρ' m' w' ∧ Evo ρ m w ρ' m' w'):CallP P f vs m Post:=by
 intro ρ w args hm hl ha
 rw [callFunc_body h1 h2 h3]
 exact Calls.mono (h ρ w args hm hl ha) fun en w' ⟨v,m',v',ρ',he,a,b,c,d⟩ => ⟨v',he,v,m',ρ',a,b,c,d⟩
def CallOk (P:Program) {R:Type} (call:Fun R):Prop:=∀ f vs m K r,call f vs m K = some r → ∃ v m',K v m' = some r ∧ (∀ K',call f vs m K' = K' v m') ∧ CallP P f vs m fun v' m'' => v' = v ∧ m'' = m'
theorem CallOk.post {P:Program} {R:Type} {call:Fun R} (h:CallOk P call) {f vs m K r} (hc:call f vs m K = some r):CallP P f vs m fun v m' => K v m' = some r:=by
 obtain ⟨v,m',h1,h2,h3⟩:=h f vs m K r hc
 exact h3.mono fun v' m'' ⟨a,b⟩ => by subst a;subst b;exact h1
theorem CallOk.det {P:Program} {R:Type} {call:Fun R} (h:CallOk P call):CallDet call:=fun f vs m K r hc => by
 obtain ⟨v,m',h1,h2,h3⟩:=h f vs m K r hc
 exact ⟨v,m',h1,h2⟩
abbrev Arm (R:Type):=List Value → Mem → (Value → Mem → Option R) → Option R
def callNil {R:Type}:Fun R:=fun _ _ _ _ => none
def callCons {R:Type} (n:Nat) (a:Arm R) (c:Fun R):Fun R:=fun f vs m K => match gN4 (Nat.beq f n) with
 | true => a vs m K
 | false => c f vs m K
def ArmOk (P:Program) (n:Nat) {R:Type} (a:Arm R):Prop:=∀ vs m K r,a vs m K = some r → ∃ v m',K v m' = some r ∧ (∀ K',a vs m K' = K' v m') ∧ CallP P n vs m fun v' m'' => v' = v ∧ m'' = m'
theorem callOk_nil {P:Program} {R:Type}:CallOk P (callNil (R:=R)):=by
 intro f vs m K r h
 cases h
theorem callOk_cons {P:Program} {R:Type} {n:Nat} {a:Arm R} {c:Fun R} (ha:ArmOk P n a) (hc:CallOk P c):CallOk P (callCons n a c):=by
 intro f vs m K r h
 unfold callCons at h ⊢
 cases hb:gN4 (Nat.beq f n) with
 | true =>
  have:f = n:=Nat.eq_of_beq_eq_true hb
  subst this
  rw [hb] at h
  exact ha vs m K r h
 | false =>
  rw [hb] at h
  exact hc f vs m K r h
section
variable {P:Program} {R:Type} {C:Ctx R} {r:R}
theorem Did.wp {o:Oper} {ρ m w a v m'} {next:Act → World → Prop} {Q:Exit → Act → World → Prop} (h:Did P a o ρ m w v m')
 (hn:∀ v' w' ρ',VR ρ' m'.length v v' → MRep ρ' m' w' → Evo ρ m w ρ' m' w' → next (a.put o.dst v') w'):o.wp P a w next Q:=by
 obtain ⟨v',w',ρ',h1,h2,h3,h4⟩:=h
 unfold Oper.wp
 rcases h1 with h1 | ⟨h1,rfl⟩
 ·rw [h1];exact hn v' w' ρ' h2 h3 h4
 ·rw [h1];exact hn undef w' ρ' h2 h3 h4
theorem given {o:Oper} {a:Act} {w:World} {next:Act → World → Prop} {Q:Exit → Act → World → Prop} {x:Result Next} {S:Value → World → Prop} (hx:(execOp a.eval o).run P w = x) (hg:Gives P S x) (hn:∀ v w',S v w' → next (a.put o.dst v) w'):o.wp P a w next Q:=by
 unfold Oper.wp
 rw [hx]
 unfold Gives at hg
 split at hg
 ·exact hn _ _ hg
 ·rw [Oper.upon_enter]
  refine Calls.mono hg ?_
  rintro en w' ⟨v,rfl,hs⟩
  exact hn _ _ hs
 ·rw [Oper.upon_row]
  exact Rows.mono hg hn
 ·exact hg.elim
theorem VR.fn_inv {ρ:Rn} {L:Nat} {f:FuncId} {fa ca:Array Value} {v':Value} (h:VR ρ L (.func (.func f) fa ca) v'):∃ fa' ca':List Value,v' = .func (.func f) ⟨fa'⟩ ⟨ca'⟩ ∧ fa.toList.length = fa'.length ∧ ca.toList.length = ca'.length ∧
 (∀ (i:Nat) v,fa.toList[i]? = some v → ∃ v',fa'[i]? = some v' ∧ VR ρ L v v') ∧ (∀ (i:Nat) v,ca.toList[i]? = some v → ∃ v',ca'[i]? = some v' ∧ VR ρ L v v'):=by
 have conv:∀ {b b':List Value},b.length = b'.length → (∀ i,i < b.length → VR ρ L (b.getD i undef) (b'.getD i undef)) → ∀ (i:Nat) v,b[i]? = some v → ∃ v',b'[i]? = some v' ∧ VR ρ L v v':=by
  intro b b' hl hv i v hi
  have hlt:i < b.length:=(List.getElem?_eq_some_iff.1 hi).1
  have h1:=hv i hlt
  rw [List.getD_eq_getElem?_getD,List.getD_eq_getElem?_getD,hi,List.getElem?_eq_getElem (show i < b'.length by omega)] at h1
  exact ⟨_,List.getElem?_eq_getElem (by omega),h1⟩
 cases h with
 | fn _ b b' d d' h1 h2 h3 h4 => exact ⟨b',d',rfl,h1,h2,conv h1 h3,conv h2 h4⟩
theorem fn_args {ρ:Rn} {L:Nat} {fa ca:Array Value} {fa' ca' vs as:List Value} (g1:fa.toList.length = fa'.length) (g3:∀ (i:Nat) v,fa.toList[i]? = some v → ∃ v',fa'[i]? = some v' ∧ VR ρ L v v') (g4:∀ (i:Nat) v,ca.toList[i]? = some v → ∃ v',ca'[i]? = some v' ∧ VR ρ L v v')
 (h:∀ (i:Nat) v,vs[i]? = some v → ∃ v',as[i]? = some v' ∧ VR ρ L v v') (hl:vs.length = as.length):∀ (i:Nat) v,(fa.toList ++ vs ++ ca.toList)[i]? = some v → ∃ v',(fa' ++ as ++ ca')[i]? = some v' ∧ VR ρ L v v':=by
 intro i v hi
 rw [List.append_assoc] at hi ⊢
 by_cases h1:i < fa.toList.length
 ·rw [List.getElem?_append_left h1] at hi
  rw [List.getElem?_append_left (by omega)]
  exact g3 i v hi
 ·rw [List.getElem?_append_right (by omega)] at hi
  rw [List.getElem?_append_right (by omega),← g1]
  by_cases h2:i - fa.toList.length < vs.length
  ·rw [List.getElem?_append_left h2] at hi
   rw [List.getElem?_append_left (by omega)]
   exact h _ v hi
  ·rw [List.getElem?_append_right (by omega)] at hi
   rw [List.getElem?_append_right (by omega),← hl]
   exact g4 _ v hi
theorem oper_wp (hcall:CallOk P C.call) {o:Oper} {ρ:Rn} {e:Env} {m:Mem} {a:Act} {w:World} {K:Value → Mem → Option R} {next:Act → World → Prop} {Q:Exit → Act → World → Prop}
 (hs:St P C.T ρ e m a w) (h:oper C o.op e m K = some r)
 (hn:∀ v m' v' w' ρ',K v m' = some r → VR ρ' m'.length v v' → MRep ρ' m' w' → Evo ρ m w ρ' m' w' → next (a.put o.dst v') w'):o.wp P a w next Q:=by
 have fin:∀ {o':Oper},o'.dst = o.dst → (∃ v m',K v m' = some r ∧ Did P a o' ρ m w v m') → o'.wp P a w next Q:=by
  rintro o' hd ⟨v,m',h1,h2⟩
  exact h2.wp fun v' w' ρ' a b c => by rw [hd];exact hn v m' v' w' ρ' h1 a b c
 obtain ⟨dst,op,ty,pos,after,guard⟩:=o
 cases op <;> try (simp only [oper,reduceCtorEq] at h;done)
 case move => exact fin rfl (op_move hs h)
 case assign => exact fin rfl (op_assign hs h)
 case pick => exact fin rfl (op_pick hs h)
 case alloc => exact fin rfl (op_alloc hs h)
 case box => exact fin rfl (op_box hs h)
 case build => exact fin rfl (op_build hs h)
 case buildSlice => exact fin rfl (op_buildSlice hs h)
 case load => exact fin rfl (op_load hs h)
 case store => exact fin rfl (op_store hs h)
 case nilCheck => exact fin rfl (op_nilCheck hs h)
 case fieldAddr => exact fin rfl (op_fieldAddr hs h)
 case field => exact fin rfl (op_field hs h)
 case indexAddr => exact fin rfl (op_indexAddr hs h)
 case index => exact fin rfl (op_index hs h)
 case binOp => exact fin rfl (op_binOp hs h)
 case unOp => exact fin rfl (op_unOp hs h)
 case convert => exact fin rfl (op_convert hs h)
 case makeInterface => exact fin rfl (op_makeInterface hs h)
 case makeSlice => exact fin rfl (op_makeSlice hs h)
 case makeFunc => exact fin rfl (op_makeFunc hs h)
 case slice => exact fin rfl (op_slice hs h)
 case extract => exact fin rfl (op_extract hs h)
 case call c =>
  cases hc:c.callee with
  | builtin b => exact fin rfl (op_builtin hs ⟨b,hc⟩ h)
  | invoke x y => simp [oper,hc] at h
  | value x =>
   cases x with
   | tmp t =>
    simp only [oper,hc] at h
    split at h
    ·rename_i f fa ca vs hl hvs
     obtain ⟨h5,h6⟩:=opnds_sound hs.env hvs
     have hf:=opnd_sound hs.env (x:=.tmp t) (v:=.func (.func f) fa ca) (by simpa [opnd] using hl)
     obtain ⟨fa',ca',hev,g1,g2,g3,g4⟩:=hf.fn_inv
     have hrun:(execOp a.eval ⟨dst,.call c,ty,pos,after,guard⟩).run P w = (callFunc f (⟨fa'⟩ ++ c.args.map a.eval ++ ⟨ca'⟩)).run P w:=by
      obtain ⟨callee,args,argTypes⟩:=c
      simp only at hc
      subst hc
      simp [execOp,resolve,invoke,Deferred.ofValue,hev]
     have hargs:=hcall.post h ρ w (fa' ++ (c.args.map a.eval).toList ++ ca') hs.mem (by simp [← g1,← g2,h5]) (fn_args g1 g3 g4 (by
      intro i v hi
      obtain ⟨x,h7,h8⟩:=h6 i v hi
      refine ⟨a.eval x,?_,h8⟩
      rw [Array.toList_map,List.getElem?_map,h7];rfl) (by simp [h5]))
     rw [show (⟨fa' ++ (c.args.map a.eval).toList ++ ca'⟩:Array Value) = ⟨fa'⟩ ++ c.args.map a.eval ++ ⟨ca'⟩ by apply Array.toList_inj.1;simp] at hargs
     exact given hrun hargs fun v' w' ⟨v,m',ρ',ha,hb,hc',hd⟩ => hn v m' v' w' ρ' ha hb hc' hd
    ·simp at h
   | const c => simp [oper,hc] at h
   | global g => simp [oper,hc] at h
   | func f =>
    simp only [oper,hc] at h
    split at h
    ·rename_i vs hvs
     obtain ⟨h5,h6⟩:=opnds_sound hs.env hvs
     have hargs:=hcall.post h ρ w (c.args.map a.eval).toList hs.mem (by simp [h5]) (by
      intro i v hi
      obtain ⟨x,h7,h8⟩:=h6 i v hi
      refine ⟨a.eval x,?_,h8⟩
      rw [Array.toList_map,List.getElem?_map,h7];rfl)
     have hrun:(execOp a.eval ⟨dst,.call c,ty,pos,after,guard⟩).run P w = (callFunc f (c.args.map a.eval)).run P w:=by
      obtain ⟨callee,args,argTypes⟩:=c
      simp only at hc
      subst hc
      simp [execOp,resolve,invoke,Act.eval,Deferred.ofValue]
     exact given hrun hargs fun v' w' ⟨v,m',ρ',ha,hb,hc',hd⟩ => hn v m' v' w' ρ' ha hb hc' hd
    ·simp at h
def dok (nt:Nat) (o:Oper):Bool:=match o.dst with | some d => decide (d < nt) | none => true
theorem EnvR.put {ρ L e tmps d v v'} (h:EnvR ρ L e tmps) (hd:d < tmps.size) (hv:VR ρ L v v'):EnvR ρ L ((d,v) :: e) (tmps.setIfInBounds d v'):=by
 intro t u ht
 simp only [lk] at ht
 cases hb:Nat.beq d t with
 | true =>
  rw [hb] at ht
  simp at ht;subst ht
  have:=Nat.eq_of_beq_eq_true hb
  subst this
  refine ⟨by simpa using hd,?_⟩
  simp [Array.getD,hd];exact hv
 | false =>
  rw [hb] at ht
  have hne:d ≠ t:=by
   intro h;subst h
   rw [show Nat.beq d d = true from Nat.beq_refl d] at hb;simp at hb
  obtain ⟨h1,h2⟩:=h t u (by simpa using ht)
  refine ⟨by simpa using h1,?_⟩
  simp only [Array.getD,Array.size_setIfInBounds,h1,dif_pos,Array.getInternal_eq_getElem] at h2 ⊢
  rw [Array.getElem_setIfInBounds]
  rw [if_neg hne];exact h2
theorem put_size (a:Act) (d:Option Nat) (v:Value):(a.put d v).tmps.size = a.tmps.size:=by
 cases d <;> simp [Act.put]
theorem put_defers (a:Act) (d:Option Nat) (v:Value):(a.put d v).defers = a.defers:=by
 cases d <;> simp [Act.put]
def Marks (B:Nat → Prop) (ds:List Deferred) (w:World):Prop:=∃ Ds:List Nat,ds = Ds.map (fun D => { target:=.collected D,args:=#[] }) ∧ Ds.Nodup ∧ ∀ D ∈ Ds,B D ∧ w.heap[D]? = some (.deferred (some []))
theorem Marks.nil {B w}:Marks B [] w:=⟨[],rfl,List.nodup_nil,by simp⟩
theorem Evo.keeps {ρ m w ρ' m' w'} (hev:Evo ρ m w ρ' m' w') (hm:MRep ρ m w) {D:Nat} {o:Obj} (h:w.heap[D]? = some o) (ho:∀ c t f,o ≠ .cells c t f):w'.heap[D]? = some o:=by
 rw [hev.frame D (Array.getElem?_eq_some_iff.1 h).1 ?_,h]
 intro n cs hl he
 obtain ⟨real,elem,fr,h1,_⟩:=hm.live n cs hl
 rw [he,h] at h1
 exact ho _ _ _ (Option.some.inj h1)
theorem Marks.evo {B ds ρ m w ρ' m' w'} (h:Marks B ds w) (hm:MRep ρ m w) (hev:Evo ρ m w ρ' m' w'):Marks B ds w':=by
 obtain ⟨Ds,h1,h2,h3⟩:=h
 exact ⟨Ds,h1,h2,fun D hD => ⟨(h3 D hD).1,hev.keeps hm (h3 D hD).2 (by simp)⟩⟩
structure Fr (P:Program) (T:TT) (nt:Nat) (B:Nat → Prop) (ρ:Rn) (e:Env) (m:Mem) (a:Act) (w:World):Prop where
 st:St P T ρ e m a w
 size:a.tmps.size = nt
 defers:Marks B a.defers w
theorem Fr.put {T nt B ρ ρ' e m m' a w w' d v v'} (h:Fr P T nt B ρ e m a w) (hd:∀ x,d = some x → x < nt) (hv:VR ρ' m'.length v v') (hm:MRep ρ' m' w') (hev:Evo ρ m w ρ' m' w') :
 Fr P T nt B ρ' (putE e d v) m' (a.put d v') w':=by
 refine ⟨⟨h.st.tok,?_,hm⟩,by rw [put_size];exact h.size,by rw [put_defers];exact h.defers.evo h.st.mem hev⟩
 have he:EnvR ρ' m'.length e a.tmps:=h.st.env.mono hev.agree hev.len
 cases d with
 | none => exact he
 | some d => exact he.put (by rw [h.size];exact hd d rfl) hv
theorem Fr.know {T nt B ρ e m a w s b} (h:Fr P T nt B ρ e m a w) (hl:lk s e = some (.bool b)):Fr P T nt B ρ ((s,.bool b) :: e) m a w:=by
 refine ⟨⟨h.st.tok,?_,h.st.mem⟩,h.size,h.defers⟩
 intro t u ht
 simp only [lk] at ht
 cases hb:Nat.beq s t with
 | true =>
  rw [hb] at ht
  simp at ht;subst ht
  have:=Nat.eq_of_beq_eq_true hb
  subst this
  exact h.st.env _ _ hl
 | false => rw [hb] at ht;exact h.st.env t u (by simpa using ht)
theorem yielded_of {T nt B ρ e m a w s j} {ops:Array Oper} (h:Fr P T nt B ρ e m a w) (hsl:slotOf ops.toList j = some s) {v:Value} (hl:lk s e = some v) :
 yielded ops a.tmps j = match v with | .bool b => some b | _ => none:=by
 obtain ⟨h1,h2⟩:=h.st.env s v hl
 unfold slotOf at hsl
 rw [Array.getElem?_toList] at hsl
 unfold yielded
 rw [hsl]
 have:a.tmps[s]? = some (a.tmps.getD s undef):=by simp [Array.getD,h1]
 simp only [Option.bind_some,this]
 generalize a.tmps.getD s undef = u at h2 ⊢
 cases h2 <;> rfl
def fenceR (ro:Option Nat):Fence:={ Fence.wide with round:=ro }
theorem toIn {o:Oper} {a:Act} {w:World} {next:Act → World → Prop} {Q:Exit → Act → World → Prop} {ro:Option Nat} (hnd:∀ c,o.op ≠ .defer c) (h:o.wp P a w next Q):o.wpIn (fenceR ro) 0 P a w next Q:=by
 refine ⟨fun f _ => trivial,?_⟩
 rw [Oper.semAt_eq _ _ _ hnd]
 unfold Oper.wp at h
 unfold Oper.upon at h
 split at h
 ·rename_i hx;rw [hx];exact h
 ·rename_i hx;rw [hx];exact h
 ·rename_i hx;rw [hx];exact h
 ·rename_i hx;rw [hx]
  refine ⟨fun hd => by simp [fenceR,Fence.wide] at hd,?_⟩
  exact (callsIn_wide (n:=0 - 1)).2 h
 ·rename_i hx;rw [hx]
  refine ⟨fun hd => by simp [fenceR,Fence.wide] at hd,fun c cs _ => ?_⟩
  obtain ⟨v,w',h1,h2⟩:=h c cs
  exact ⟨v,w',h1,stepsIn_wide.2 h2⟩
 ·rename_i hx;rw [hx];exact h
 ·exact h.elim
theorem oper_wpIn (hcall:CallOk P C.call) {o:Oper} {ρ:Rn} {e:Env} {m:Mem} {a:Act} {w:World} {K:Value → Mem → Option R} {next:Act → World → Prop} {Q:Exit → Act → World → Prop} {ro:Option Nat}
 (hs:St P C.T ρ e m a w) (h:oper C o.op e m K = some r)
 (hn:∀ v m' v' w' ρ',K v m' = some r → VR ρ' m'.length v v' → MRep ρ' m' w' → Evo ρ m w ρ' m' w' → next (a.put o.dst v') w'):o.wpIn (fenceR ro) 0 P a w next Q :=
 toIn (fun c hc => by rw [hc] at h;simp [oper] at h) (oper_wp hcall hs h hn)
theorem opsX_soundR (hcall:CallOk P C.call) {ops:Array Oper} {nt:Nat} {B:Nat → Prop} {ro:Option Nat} {Q:Exit → Act → World → Prop} {K:Env → Mem → Option R} {rest:List Oper} :
 ∀ (os:List Oper) (e:Env) (m:Mem) (ρ:Rn) (a:Act) (w:World),(∀ o ∈ os,dok nt o = true) → Fr P C.T nt B ρ e m a w → opsX C ops.toList os e m K = some r →
  (∀ e' m' ρ' a' w',K e' m' = some r → Fr P C.T nt B ρ' e' m' a' w' → Evo ρ m w ρ' m' w' → wpListIn (fenceR ro) 0 P ops Q rest a' w') → wpListIn (fenceR ro) 0 P ops Q (os ++ rest) a w
 | [],e,m,ρ,a,w,hd,hf,h,hK => by
  exact hK e m ρ a w h hf (Evo.refl _ _ _)
 | o :: os,e,m,ρ,a,w,hd,hf,h,hK => by
  have hdo:∀ x,o.dst = some x → x < nt:=by
   intro x hx
   have:=hd o (by simp)
   simpa [dok,hx] using this
  have hrest:∀ (e:Env),Fr P C.T nt B ρ e m a w → oper C o.op e m (fun v m' => opsX C ops.toList os (putE e o.dst v) m' K) = some r → o.wpIn (fenceR ro) 0 P a w (wpListIn (fenceR ro) 0 P ops Q (os ++ rest)) Q:=by
   intro e hf h
   refine oper_wpIn hcall hf.st h ?_
   intro v m' v' w' ρ' h1 h2 h3 h4
   exact opsX_soundR hcall os _ m' ρ' _ w' (fun x hx => hd x (by simp [hx])) (hf.put hdo h2 h3 h4) h1 fun e' m2 ρ2 a' w2 b1 b2 b3 => hK e' m2 ρ2 a' w2 b1 b2 (h4.trans b3)
  have hskip:∀ (e:Env),Fr P C.T nt B ρ e m a w → opsX C ops.toList os (putE e o.dst (.tuple #[])) m K = some r → wpListIn (fenceR ro) 0 P ops Q (os ++ rest) (a.put o.dst undef) w:=by
   intro e hf h
   exact opsX_soundR hcall os _ m ρ _ w (fun x hx => hd x (by simp [hx])) (hf.put hdo (.tuple [] [] rfl (by simp)) hf.st.mem (Evo.refl _ _ _)) h hK
  rw [List.cons_append]
  unfold wpListIn
  simp only [opsX] at h
  cases hg:o.guard with
  | none =>
   rw [hg] at h
   rw [if_pos (by simp [Region.wanted,hg])]
   exact (hrest e hf h)
  | some g =>
   obtain ⟨j,want⟩:=g
   rw [hg] at h
   simp only at h
   split at h
   ·simp at h
   ·rename_i s hsl
    split at h
    ·rename_i t ht
     have hy:=yielded_of hf hsl ht
     simp only at hy
     have hw:Region.wanted o (yielded ops a.tmps) = (t == want):=by simp [Region.wanted,hg,hy]
     rw [hw]
     cases t <;> cases want <;> simp only [cond_true,cond_false] at h
     ·rw [if_pos (by rfl)];exact (hrest _ (hf.know ht) h)
     ·rw [if_neg (by decide)];exact ⟨fun _ _ => trivial,hskip _ (hf.know ht) h⟩
     ·rw [if_neg (by decide)];exact ⟨fun _ _ => trivial,hskip _ (hf.know ht) h⟩
     ·rw [if_pos (by rfl)];exact (hrest _ (hf.know ht) h)
    ·rename_i cs ht
     have hy:=yielded_of hf hsl ht
     have hw:Region.wanted o (yielded ops a.tmps) = false:=by simp [Region.wanted,hg,hy]
     rw [hw,if_neg (by decide)]
     exact ⟨fun _ _ => trivial,hskip _ hf h⟩
    ·simp at h
theorem opsX_sound (hcall:CallOk P C.call) {ops:Array Oper} {nt:Nat} {B:Nat → Prop} {ro:Option Nat} {Q:Exit → Act → World → Prop} {K:Env → Mem → Option R}
 (os:List Oper) (e:Env) (m:Mem) (ρ:Rn) (a:Act) (w:World) (hd:∀ o ∈ os,dok nt o = true) (hf:Fr P C.T nt B ρ e m a w) (h:opsX C ops.toList os e m K = some r)
   (hK:∀ e' m' ρ' a' w',K e' m' = some r → Fr P C.T nt B ρ' e' m' a' w' → Evo ρ m w ρ' m' w' → Q .normal a' w'):wpListIn (fenceR ro) 0 P ops Q os a w:=by
 have:=opsX_soundR (ro:=ro) (Q:=Q) (rest:=[]) hcall os e m ρ a w hd hf h hK
 rwa [List.append_nil] at this
end
end Go.Mx
set_option linter.unusedVariables false
set_option linter.unusedSimpArgs false
namespace Go.Mx
theorem put_same {a:Act} {d:Nat} {v:Value} (h:d < a.tmps.size):(a.put (some d) v).tmps.getD d undef = v:=by
 simp [Act.put,Array.getD,h]
theorem put_other {a:Act} {d k:Nat} {v:Value} (h:k ≠ d):(a.put (some d) v).tmps.getD k undef = a.tmps.getD k undef:=by
 simp only [Act.put,Array.getD_eq_getD_getElem?]
 rw [Array.getElem?_setIfInBounds_ne (by omega)]
theorem MRep.later {ρ m w} (h:MRep ρ m w) {w':World} (he:∀ b,b < w.heap.size → w'.heap[b]? = w.heap[b]?) (hs:w.heap.size ≤ w'.heap.size):MRep ρ m w' where
 live n cs hn:=by
  obtain ⟨real,elem,fr,h1,h2⟩:=h.live n cs hn
  exact ⟨real,elem,fr,(he _ (Array.getElem?_eq_some_iff.1 h1).1).trans h1,h2⟩
 inj:=h.inj
 ro n cs hn:=by
  obtain ⟨h1,h2,cs',h3,h4⟩:=h.ro n cs hn
  refine ⟨by omega,h2,cs',h3,fun j v hj => ?_⟩
  have h5:=h4 j v hj
  have e:=he _ h1
  unfold World.cell? at h5 ⊢
  simp only [e]
  exact h5
theorem MRep.name {ρ m w} (h:MRep ρ m w) {real:List Value} {elem:TypeId} {β:Nat} (hp:∀ v ∈ real,plainV v = true) (hb:w.heap[β]? = some (.cells ⟨real⟩ elem (0,0)))
 (hlive:∀ n cs,m[n]? = some (.live cs) → ρ.blk n ≠ β) (hro:∀ n cs,IsRo ρ m n cs → ρ.blk n ≠ β):MRep (ρ.upd m.length β real.length) (m ++ [.live real]) w:=by
 have hag:=Rn.upd_agree ρ m.length β real.length
 have hself:(ρ.upd m.length β real.length).blk m.length = β:=by simp [Rn.upd]
 have hself':(ρ.upd m.length β real.length).sz m.length = real.length:=by simp [Rn.upd]
 have hself2:(ρ.upd m.length β real.length).sh m.length = 0:=by simp [Rn.upd]
 have hget:∀ {o:MObj} (n:Nat),(m ++ [MObj.live real])[n]? = some o → (n < m.length ∧ m[n]? = some o) ∨ (n = m.length ∧ o = .live real):=by
  intro o n hn
  rw [getElem?_snoc] at hn
  split at hn
  ·rename_i hlt;exact .inl ⟨hlt,hn⟩
  ·split at hn
   ·rename_i h2;simp at hn;exact .inr ⟨h2,hn.symm⟩
   ·simp at hn
 refine ⟨?_,?_,?_⟩
 ·intro n cs' hn
  rcases hget n hn with ⟨hlt,hn⟩ | ⟨rfl,hn⟩
  ·obtain ⟨real',elem',fr',a1,a2,a3,a4,a5,a6⟩:=h.live n cs' hn
   refine ⟨real',elem',fr',?_,?_,?_,a4,a5,?_⟩
   ·rw [(hag n hlt).blk];exact a1
   ·rw [(hag n hlt).sz];exact a2
   ·rw [(hag n hlt).sh];exact a3
   ·rw [(hag n hlt).sh];exact a6.mono hag (by simp)
  ·simp at hn;subst hn
   have hvr:VRs (ρ.upd m.length β real.length) (m ++ [MObj.live real]).length real real:=VRs.plain hp
   refine ⟨real,elem,(0,0),by rw [hself];exact hb,hself'.symm,by rw [hself2];omega,by simp,fun v hv => ?_,by rw [hself2];simpa using hvr⟩
   obtain ⟨i,hi,rfl⟩:=List.mem_iff_getElem.1 hv
   obtain ⟨v',h3,h4⟩:=hvr.all i real[i] (by simp [hi])
   rw [List.getElem?_eq_getElem hi] at h3
   cases h3
   rw [← h4.one];exact hvr.one _ (List.getElem_mem hi)
 ·intro n n' cs cs' hn hn' he
  rcases hget n hn with ⟨hlt,hn⟩ | ⟨rfl,hn⟩ <;> rcases hget n' hn' with ⟨hlt',hn'⟩ | ⟨rfl,hn'⟩
  ·rw [(hag n hlt).blk,(hag n' hlt').blk] at he;exact h.inj n n' cs cs' hn hn' he
  ·rw [(hag n hlt).blk,hself] at he;exact absurd he (hlive n cs hn)
  ·rw [(hag n' hlt').blk,hself] at he;exact absurd he.symm (hlive n' cs' hn')
  ·rfl
 ·intro n cs hn0
  obtain ⟨o,ho1,ho2⟩:=hn0.get
  rcases hget n ho1 with ⟨hlt,_⟩ | ⟨_,hx⟩
  ·have hn:IsRo ρ m n cs:=hn0.back (by simp) (fun n hn => ⟨(hag n hn).blk,(hag n hn).sh⟩) hlt fun o ho hno => by
    rcases hget n ho with ⟨_,h⟩ | ⟨_,h⟩
    ·exact h
    ·exact absurd h (hno _)
   obtain ⟨h1,h2,cs',h3,h4⟩:=h.ro n cs hn
   refine ⟨by rw [(hag n hlt).blk];exact h1,?_,cs',h3.mono hag (by simp),?_⟩
   ·intro n' cs'' hn' he
    rcases hget n' hn' with ⟨hlt',hn'⟩ | ⟨rfl,hn'⟩
    ·rw [(hag n hlt).blk,(hag n' hlt').blk] at he;exact h2 n' cs'' hn' he
    ·rw [(hag n hlt).blk,hself] at he;exact hro n cs hn he.symm
   ·rw [(hag n hlt).blk,(hag n hlt).sh];exact h4
  ·exact absurd hx (ho2 _)
theorem Named.snoc {ρ:Rn} {m:Mem} {cs:List Value} {β s b:Nat} (h:Named (ρ.upd m.length β s) (m ++ [.live cs]) b):Named ρ m b ∨ b = β:=by
 have hag:=Rn.upd_agree ρ m.length β s
 have hget:∀ {o:MObj} (n:Nat),(m ++ [MObj.live cs])[n]? = some o → (n < m.length ∧ m[n]? = some o) ∨ (n = m.length ∧ o = .live cs):=by
  intro o n hn
  rw [getElem?_snoc] at hn
  split at hn
  ·rename_i hlt;exact .inl ⟨hlt,hn⟩
  ·split at hn
   ·rename_i h2;simp at hn;exact .inr ⟨h2,hn.symm⟩
   ·simp at hn
 obtain ⟨n,c,hn,rfl⟩:=h
 rcases hn with hn | hn
 ·rcases hget n hn with ⟨hlt,hn⟩ | ⟨rfl,hn⟩
  ·exact .inl ⟨n,c,.inl hn,(hag n hlt).blk.symm⟩
  ·exact .inr (by simp [Rn.upd])
 ·obtain ⟨o,ho1,ho2⟩:=hn.get
  rcases hget n ho1 with ⟨hlt,_⟩ | ⟨_,hx⟩
  ·exact .inl ⟨n,c,.inr (hn.back (by simp) (fun n hn => ⟨(hag n hn).blk,(hag n hn).sh⟩) hlt fun o ho hno => by
    rcases hget n ho with ⟨_,h⟩ | ⟨_,h⟩
    ·exact h
    ·exact absurd h (hno _)),(hag n hlt).blk.symm⟩
  ·exact absurd hx (ho2 _)
theorem MRep.named_lt {ρ m w b} (h:MRep ρ m w) (hn:Named ρ m b):b < w.heap.size:=by
 obtain ⟨n,cs,h1 | h1,rfl⟩:=hn
 ·exact h.blk_lt h1
 ·exact (h.ro n cs h1).1
theorem MRep.named_live {ρ m w b} (h:MRep ρ m w) (hn:¬ Named ρ m b):∀ n cs,m[n]? = some (.live cs) → ρ.blk n ≠ b:=fun n cs h1 he => hn ⟨n,cs,.inl h1,he⟩
theorem alloc_run {P:Program} {R:Type} {C:Ctx R} {o:Oper} {t:TypeId} (hT:TOk P C.T) (hop:o.op = .alloc t) (hne:(C.T t).d ≠ .other) (a:Act) (w:World) :
 (execOp a.eval o).run P w = .ok (.value (.pointer (some ⟨w.heap.size,0,none⟩))) { w with heap:=w.heap.push (.cells ⟨(C.T t).zero⟩ t) }:=by
 have ht:=hT t hne
 obtain ⟨z,hz,hz2⟩:=ht.zero w
 simp [execOp,hop,Instr.alloc,hz,newVar,newRow,← hz2]
def drop1 (d:Nat):Env → Env
 | [] => []
 | (t,v) :: e => bif Nat.beq t d then drop1 d e else (t,v) :: drop1 d e
theorem lk_drop1 {d t:Nat}:∀ {e:Env},lk t (drop1 d e) = if t = d then none else lk t e
 | [] => by simp [drop1,lk]
 | (u,v) :: e => by
  unfold drop1
  cases hb:Nat.beq u d with
  | true =>
   have:=Nat.eq_of_beq_eq_true hb
   subst this
   simp only [cond_true,lk]
   rw [lk_drop1]
   by_cases ht:t = u
   ·rw [if_pos ht,if_pos ht]
   ·rw [if_neg ht,if_neg ht]
    cases hc:Nat.beq u t with
    | true => exact absurd (Nat.eq_of_beq_eq_true hc).symm ht
    | false => rfl
  | false =>
   simp only [cond_false,lk]
   cases hc:Nat.beq u t with
   | true =>
    have:=Nat.eq_of_beq_eq_true hc
    subst this
    rw [if_neg (fun he => by rw [he,Nat.beq_refl] at hb;cases hb)];rfl
   | false => simp only [cond_false];exact lk_drop1
theorem veq_eq {a b:Value} (h:veq a b = true):a = b:=by
 unfold veq at h
 split at h
 ·rename_i a b;rw [show a = b from Array.toList_inj.1 (veqs_eq h)]
 ·exact veq1_eq h
theorem hasN_iff {l:List Nat} {n:Nat}:hasN l n = true ↔ n ∈ l:=by
 unfold hasN
 rw [List.any_eq_true]
 constructor
 ·rintro ⟨x,h1,h2⟩;rw [← Nat.eq_of_beq_eq_true h2];exact h1
 ·intro h;exact ⟨n,h,Nat.beq_refl n⟩
theorem dstIs_iff {o:Oper} {t:Nat}:dstIs o t = true ↔ o.dst = some t:=by
 unfold dstIs
 cases o.dst with
 | none => simp
 | some d => simp
theorem ordB_iff {i j:Nat}:ordB i j = true ↔ i < j:=by
 unfold ordB;rw [Nat.ble_eq];exact Iff.rfl
theorem allI_spec {p:Nat → Oper → Bool}:∀ {os:List Oper} {i:Nat},allI p i os = true → ∀ j o,os[j]? = some o → p (i + j) o = true
 | [],i,h,j,o,ho => by simp at ho
 | x :: os,i,h,0,o,ho => by
  simp only [allI,Bool.and_eq_true] at h
  simp at ho;subst ho;exact h.1
 | x :: os,i,h,j + 1,o,ho => by
  simp only [allI,Bool.and_eq_true] at h
  have:=allI_spec h.2 j o (by simpa using ho)
  rwa [show i + 1 + j = i + (j + 1) by omega] at this
theorem allI_mk {p:Nat → Oper → Bool}:∀ {os:List Oper} {i:Nat},(∀ j o,os[j]? = some o → p (i + j) o = true) → allI p i os = true
 | [],i,h => rfl
 | x :: os,i,h => by
  simp only [allI,Bool.and_eq_true]
  refine ⟨h 0 x rfl,allI_mk fun j o ho => ?_⟩
  rw [show i + 1 + j = i + (j + 1) by omega]
  exact h (j + 1) o (by simpa using ho)
structure Fine (all:List Oper) (cs:List (List Nat)) (tw:Prop:=False) (fl:Nat → Prop:=fun _ => False):Prop where
 low:∀ (i:Nat) o,all[i]? = some o → ∀ k ∈ preOf o,k < i
 clo:∀ (i:Nat) o,all[i]? = some o → ∀ k ∈ cs.getD i [],k ∈ preOf o ∨ ∃ j ∈ preOf o,k ∈ cs.getD j []
 dst:∀ (i j:Nat) oi oj d,all[i]? = some oi → all[j]? = some oj → i ≠ j → oj.dst = some d → oi.dst ≠ some d
 reads:∀ (i j:Nat) oi oj d,all[i]? = some oi → all[j]? = some oj → i ≠ j → oj.dst = some d → d ∈ readsO all oi → j ∈ preOf oi ∨ i ∈ preOf oj
 eff:∀ (i j:Nat) oi oj,all[i]? = some oi → all[j]? = some oj → effB oi.op = true → effB oj.op = true → j < i → j ∈ cs.getD i [] ∨ fl i ∨ (tw ∧ i = 2 ∧ j = 1)
 flo:∀ (i:Nat),fl i → ∃ o t d,all[i]? = some o ∧ o.op = .alloc t ∧ o.dst = some d ∧ o.guard = none ∧ preOf o = []
 fhas:∀ (i f k:Nat) oi ok,all[i]? = some oi → fl f → (f ∈ cs.getD i [] ∨ f ∈ preOf oi) → all[k]? = some ok → effB ok.op = true → k < f → k ∈ cs.getD i []
theorem drawOk_fine {all:List Oper} {cs:List (List Nat)} (h:drawOk all cs = true):Fine all cs:=by
 have h1:∀ i oi,all[i]? = some oi → oneOkI cs i oi = true ∧ ∀ j oj,all[j]? = some oj → pairOkI all cs i oi j oj = true:=by
  intro i oi hi
  have:=allI_spec h i oi hi
  rw [Nat.zero_add,Bool.and_eq_true] at this
  exact ⟨this.1,fun j oj hj => by have:=allI_spec this.2 j oj hj;rwa [Nat.zero_add] at this⟩
 have h2:∀ i j oi oj,all[i]? = some oi → all[j]? = some oj → i ≠ j → (∀ d,oj.dst = some d → oi.dst ≠ some d ∧ (d ∈ readsO all oi → j ∈ preOf oi ∨ i ∈ preOf oj)) ∧ (effB oi.op = true → effB oj.op = true → j < i → j ∈ cs.getD i []):=by
  intro i j oi oj hi hj hne
  have:=(h1 i oi hi).2 j oj hj
  unfold pairOkI at this
  rw [show Nat.beq i j = false by cases hb:Nat.beq i j with | false => rfl | true => exact absurd (Nat.eq_of_beq_eq_true hb) hne,Bool.false_or,Bool.and_eq_true] at this
  obtain ⟨ha,hb⟩:=this
  constructor
  ·intro d hd
   simp only [hd,Bool.and_eq_true,Bool.not_eq_true',Bool.or_eq_true] at ha
   refine ⟨fun hh => ?_,fun hm => ?_⟩
   ·rw [dstIs_iff.2 hh] at ha;exact absurd ha.1 (by simp)
   ·rcases ha.2 with (h5 | h5) | h5
    ·rw [hasN_iff.2 hm] at h5;cases h5
    ·exact .inl (hasN_iff.1 h5)
    ·exact .inr (hasN_iff.1 h5)
  ·intro e1 e2 e3
   rw [e1,e2,ordB_iff.2 e3] at hb
   simpa [hasN_iff] using hb
 constructor
 ·intro i o hi k hk
  have:=(h1 i o hi).1
  simp only [oneOkI,Bool.and_eq_true,List.all_eq_true] at this
  exact ordB_iff.1 (this.1 k hk)
 ·intro i o hi k hk
  have:=(h1 i o hi).1
  simp only [oneOkI,Bool.and_eq_true,List.all_eq_true,Bool.or_eq_true,List.any_eq_true] at this
  rcases this.2 k hk with h3 | ⟨j,h3,h4⟩
  ·exact .inl (hasN_iff.1 h3)
  ·exact .inr ⟨j,h3,hasN_iff.1 h4⟩
 ·intro i j oi oj d hi hj hne hd;exact ((h2 i j oi oj hi hj hne).1 d hd).1
 ·intro i j oi oj d hi hj hne hd;exact ((h2 i j oi oj hi hj hne).1 d hd).2
 ·intro i j oi oj hi hj e1 e2 e3;exact (h2 i j oi oj hi hj (by omega)).2 e1 e2 e3 |> .inl
 ·intro i h;exact h.elim
 ·intro i f k oi ok _ h;exact h.elim
theorem drawOk2_fine {all:List Oper} {cs:List (List Nat)} (h:drawOk2 all cs = true):Fine all cs True:=by
 have h1:∀ i oi,all[i]? = some oi → oneOkI cs i oi = true ∧ ∀ j oj,all[j]? = some oj → pairOk2I all cs i oi j oj = true:=by
  intro i oi hi
  have:=allI_spec h i oi hi
  rw [Nat.zero_add,Bool.and_eq_true] at this
  exact ⟨this.1,fun j oj hj => by have:=allI_spec this.2 j oj hj;rwa [Nat.zero_add] at this⟩
 have h2:∀ i j oi oj,all[i]? = some oi → all[j]? = some oj → i ≠ j → (∀ d,oj.dst = some d → oi.dst ≠ some d ∧ (d ∈ readsO all oi → j ∈ preOf oi ∨ i ∈ preOf oj)) ∧ (effB oi.op = true → effB oj.op = true → j < i → j ∈ cs.getD i [] ∨ (i = 2 ∧ j = 1)):=by
  intro i j oi oj hi hj hne
  have:=(h1 i oi hi).2 j oj hj
  unfold pairOk2I at this
  rw [show Nat.beq i j = false by cases hb:Nat.beq i j with | false => rfl | true => exact absurd (Nat.eq_of_beq_eq_true hb) hne,Bool.false_or,Bool.and_eq_true] at this
  obtain ⟨ha,hb⟩:=this
  constructor
  ·intro d hd
   simp only [hd,Bool.and_eq_true,Bool.not_eq_true',Bool.or_eq_true] at ha
   refine ⟨fun hh => ?_,fun hm => ?_⟩
   ·rw [dstIs_iff.2 hh] at ha;exact absurd ha.1 (by simp)
   ·rcases ha.2 with (h5 | h5) | h5
    ·rw [hasN_iff.2 hm] at h5;cases h5
    ·exact .inl (hasN_iff.1 h5)
    ·exact .inr (hasN_iff.1 h5)
  ·intro e1 e2 e3
   rw [e1,e2,ordB_iff.2 e3] at hb
   simp only [Bool.true_and,Bool.not_true,Bool.false_or,Bool.or_eq_true,Bool.and_eq_true,hasN_iff] at hb
   rcases hb with hb | ⟨hb,hb2⟩
   ·exact .inl hb
   ·exact .inr ⟨Nat.eq_of_beq_eq_true hb,Nat.eq_of_beq_eq_true hb2⟩
 constructor
 ·intro i o hi k hk
  have:=(h1 i o hi).1
  simp only [oneOkI,Bool.and_eq_true,List.all_eq_true] at this
  exact ordB_iff.1 (this.1 k hk)
 ·intro i o hi k hk
  have:=(h1 i o hi).1
  simp only [oneOkI,Bool.and_eq_true,List.all_eq_true,Bool.or_eq_true,List.any_eq_true] at this
  rcases this.2 k hk with h3 | ⟨j,h3,h4⟩
  ·exact .inl (hasN_iff.1 h3)
  ·exact .inr ⟨j,h3,hasN_iff.1 h4⟩
 ·intro i j oi oj d hi hj hne hd;exact ((h2 i j oi oj hi hj hne).1 d hd).1
 ·intro i j oi oj d hi hj hne hd;exact ((h2 i j oi oj hi hj hne).1 d hd).2
 ·intro i j oi oj hi hj e1 e2 e3;exact (h2 i j oi oj hi hj (by omega)).2 e1 e2 e3 |>.imp id fun h => .inr ⟨trivial,h⟩
 ·intro i h;exact h.elim
 ·intro i f k oi ok _ h;exact h.elim
theorem noneB_nil {l:List Nat} (h:isMk.noneB l = true):l = []:=by cases l with
 | nil => rfl
 | cons _ _ => simp [isMk.noneB] at h
theorem isFlo_inv {o:Oper} (h:isFlo o = true):∃ t d,o.op = .alloc t ∧ o.dst = some d ∧ o.guard = none ∧ preOf o = []:=by
 unfold isFlo at h
 split at h
 ·rename_i t d h1 h2 h3;exact ⟨t,d,h1,h2,h3,noneB_nil h⟩
 ·cases h
theorem drawOk3_fine {all:List Oper} {cs:List (List Nat)} (h:drawOk3 all cs = true) (hfl:floB all cs = true):Fine all cs False fun i => ∃ o,all[i]? = some o ∧ isFlo o = true:=by
 have h1:∀ i oi,all[i]? = some oi → oneOkI cs i oi = true ∧ ∀ j oj,all[j]? = some oj → pairOk3I all cs i oi j oj = true:=by
  intro i oi hi
  have:=allI_spec h i oi hi
  rw [Nat.zero_add,Bool.and_eq_true] at this
  exact ⟨this.1,fun j oj hj => by have:=allI_spec this.2 j oj hj;rwa [Nat.zero_add] at this⟩
 have h2:∀ i j oi oj,all[i]? = some oi → all[j]? = some oj → i ≠ j → (∀ d,oj.dst = some d → oi.dst ≠ some d ∧ (d ∈ readsO all oi → j ∈ preOf oi ∨ i ∈ preOf oj)) ∧ (effB oi.op = true → effB oj.op = true → j < i → j ∈ cs.getD i [] ∨ isFlo oi = true):=by
  intro i j oi oj hi hj hne
  have:=(h1 i oi hi).2 j oj hj
  unfold pairOk3I at this
  rw [show Nat.beq i j = false by cases hb:Nat.beq i j with | false => rfl | true => exact absurd (Nat.eq_of_beq_eq_true hb) hne,Bool.false_or,Bool.and_eq_true] at this
  obtain ⟨ha,hb⟩:=this
  constructor
  ·intro d hd
   simp only [hd,Bool.and_eq_true,Bool.not_eq_true',Bool.or_eq_true] at ha
   refine ⟨fun hh => ?_,fun hm => ?_⟩
   ·rw [dstIs_iff.2 hh] at ha;exact absurd ha.1 (by simp)
   ·rcases ha.2 with (h5 | h5) | h5
    ·rw [hasN_iff.2 hm] at h5;cases h5
    ·exact .inl (hasN_iff.1 h5)
    ·exact .inr (hasN_iff.1 h5)
  ·intro e1 e2 e3
   rw [e1,e2,ordB_iff.2 e3] at hb
   simp only [Bool.true_and,Bool.not_true,Bool.false_or,Bool.or_eq_true,hasN_iff] at hb
   exact hb
 constructor
 ·intro i o hi k hk
  have:=(h1 i o hi).1
  simp only [oneOkI,Bool.and_eq_true,List.all_eq_true] at this
  exact ordB_iff.1 (this.1 k hk)
 ·intro i o hi k hk
  have:=(h1 i o hi).1
  simp only [oneOkI,Bool.and_eq_true,List.all_eq_true,Bool.or_eq_true,List.any_eq_true] at this
  rcases this.2 k hk with h3 | ⟨j,h3,h4⟩
  ·exact .inl (hasN_iff.1 h3)
  ·exact .inr ⟨j,h3,hasN_iff.1 h4⟩
 ·intro i j oi oj d hi hj hne hd;exact ((h2 i j oi oj hi hj hne).1 d hd).1
 ·intro i j oi oj d hi hj hne hd;exact ((h2 i j oi oj hi hj hne).1 d hd).2
 ·intro i j oi oj hi hj e1 e2 e3
  rcases (h2 i j oi oj hi hj (by omega)).2 e1 e2 e3 with h | h
  ·exact .inl h
  ·exact .inr (.inl ⟨oi,hi,h⟩)
 ·rintro i ⟨o,ho,h⟩
  obtain ⟨t,d,a1,a2,a3,a4⟩:=isFlo_inv h
  exact ⟨o,t,d,ho,a1,a2,a3,a4⟩
 ·rintro i f k oi ok hi ⟨o,ho,h⟩ hc hk hb hlt
  have q1:=allI_spec hfl f o ho
  rw [Nat.zero_add,h,Bool.not_true,Bool.false_or] at q1
  have q2:=allI_spec q1 i oi hi
  rw [Nat.zero_add] at q2
  have q3:(hasN (cs.getD i []) f || hasN (preOf oi) f) = true:=by
   rcases hc with hc | hc
   ·rw [hasN_iff.2 hc];rfl
   ·rw [hasN_iff.2 hc,Bool.or_true]
  rw [q3,Bool.not_true,Bool.false_or] at q2
  have q4:=allI_spec q2 k ok hk
  rw [Nat.zero_add,hb,ordB_iff.2 hlt] at q4
  simpa [hasN_iff] using q4
section
variable {P:Program} {R:Type} {C:Ctx R} {r:R}
theorem chkM_spec {T:TT} {t:Nat} {a:Addr} {v:Value} {k:Option R}:∀ {ms:List Mem},chkM T t a v k ms = some r → k = some r ∧ ∀ m ∈ ms,∀ K':Value → Option R,ldT T t m a K' = K' v
 | [],h => ⟨h,by simp⟩
 | m :: ms,h => by
  simp only [chkM] at h
  obtain ⟨v',h1,h2⟩:=ldT_one h
  cases hv:veq v' v with
  | false => rw [hv] at h1;cases h1
  | true =>
   rw [hv] at h1
   obtain ⟨h3,h4⟩:=chkM_spec h1
   refine ⟨h3,fun m' hm' K' => ?_⟩
   rcases List.mem_cons.1 hm' with rfl | hm'
   ·rw [h2 K',veq_eq hv]
   ·exact h4 m' hm' K'
theorem chkL_spec {T:TT} {mems:Nat → List Mem} {k:Option R}:∀ {ls:List Ld},chkL T mems ls k = some r → k = some r ∧ ∀ l ∈ ls,∀ m ∈ mems l.i,∀ K':Value → Option R,ldT T l.t m l.a K' = K' l.v
 | [],h => ⟨h,by simp⟩
 | l :: ls,h => by
  simp only [chkL] at h
  obtain ⟨h1,h2⟩:=chkM_spec h
  obtain ⟨h3,h4⟩:=chkL_spec h1
  refine ⟨h3,fun l' hl' => ?_⟩
  rcases List.mem_cons.1 hl' with rfl | hl'
  ·exact h2
  ·exact h4 l' hl'
def Runs (all:List Oper) (e:Env) (o:Oper):Prop:=o.guard = none ∨ ∃ j want s,o.guard = some (j,want) ∧ slotOf all j = some s ∧ lk s e = some (.bool want)
def Skips (all:List Oper) (e:Env) (o:Oper):Prop:=∃ j want s,o.guard = some (j,want) ∧ slotOf all j = some s ∧ ((∃ t,lk s e = some (.bool t) ∧ t ≠ want) ∨ ∃ cs,lk s e = some (.tuple cs))
def StepP (C:Ctx R) (all:List Oper) (e:Env) (m:Mem) (o:Oper) (v:Value) (m':Mem):Prop :=
 (Runs all e o ∧ ∀ K',oper C o.op e m K' = K' v m') ∨ (Skips all e o ∧ v = undef ∧ m' = m)
theorem opnd_ext {e e':Env} (h:∀ t,lk t e = lk t e') (x:Operand):opnd e x = opnd e' x:=by
 cases x <;> simp [opnd,h]
def Trace (C:Ctx R) (all:List Oper) (cs:List (List Nat)) (i:Nat) (os:List Oper) (e:Env) (m:Mem) (ms:List Mem) (ls:List Ld) (K:Env → Mem → Option R) (r:R):Prop :=
 ∃ (E:Nat → Env) (M:Nat → Mem) (V:Nat → Value) (eN:Env) (ls':List Ld),(∀ t,lk t (E i) = lk t e) ∧ M i = m ∧
  (∀ j o,os[j]? = some o → StepP C all (E (i + j)) (M (i + j)) o (V (i + j)) (M (i + j + 1)) ∧ (∀ t,lk t (E (i + j + 1)) = lk t (putE (E (i + j)) o.dst (V (i + j)))) ∧
    (∀ t x a,o.op = .load t x → Runs all (E (i + j)) o → opnd (E (i + j)) x = some (.pointer (some a)) → ⟨i + j,t,a,V (i + j)⟩ ∈ ls')) ∧
  (∀ t,lk t eN = lk t (E (i + os.length))) ∧ (∀ l ∈ ls,l ∈ ls') ∧
  chkL C.T (memsOf all cs (ms ++ (List.range os.length).map fun j => M (i + j + 1))) ls' (K eN (M (i + os.length))) = some r
theorem lk_putE {e e1:Env} {d:Option Nat} {v:Value} (h:∀ t,lk t e1 = lk t e) (t:Nat):lk t (putE e1 d v) = lk t (putE e d v):=by
 cases d with
 | none => exact h t
 | some d => simp only [putE,lk,h t]
theorem Trace.cons {all:List Oper} {cs:List (List Nat)} {i:Nat} {o:Oper} {os:List Oper} {e e1:Env} {m m':Mem} {v:Value} {ms:List Mem} {ls ls1:List Ld} {K:Env → Mem → Option R}
 (he:∀ t,lk t e1 = lk t e) (hs:StepP C all e m o v m') (hls:∀ l ∈ ls,l ∈ ls1) (hl:∀ t x a,o.op = .load t x → Runs all e o → opnd e x = some (.pointer (some a)) → ⟨i,t,a,v⟩ ∈ ls1)
 (h:Trace C all cs (i + 1) os (putE e1 o.dst v) m' (ms ++ [m']) ls1 K r):Trace C all cs i (o :: os) e m ms ls K r:=by
 obtain ⟨E,M,V,eN,ls',h1,h2,h3,h4,h5,h6⟩:=h
 have hk:∀ k,i + 1 + k ≠ i:=by intro k;omega
 have hk':∀ k,i + (k + 1) ≠ i:=by intro k;omega
 refine ⟨fun k => if k = i then e else E k,fun k => if k = i then m else M k,fun k => if k = i then v else V k,eN,ls',fun t => by simp,by simp,?_,?_,fun l hl' => h5 l (hls l hl'),?_⟩
 ·intro j o' ho'
  cases j with
  | zero =>
   simp only [List.getElem?_cons_zero,Option.some.injEq] at ho'
   subst ho'
   simp only [Nat.add_zero,if_true,if_neg (show i + 1 ≠ i by omega),h2]
   refine ⟨hs,fun t => ?_,fun t x a a1 a2 a3 => h5 _ (hl t x a a1 a2 a3)⟩
   rw [h1 t,lk_putE he]
  | succ j =>
   simp only [List.getElem?_cons_succ] at ho'
   have:=h3 j o' ho'
   simp only [if_neg (hk' j),if_neg (show i + (j + 1) + 1 ≠ i by omega)]
   rw [show i + (j + 1) = i + 1 + j by omega]
   exact this
 ·intro t
  simp only [List.length_cons,if_neg (hk' os.length)]
  rw [show i + (os.length + 1) = i + 1 + os.length by omega]
  exact h4 t
 ·simp only [List.length_cons,if_neg (hk' os.length)]
  rw [show i + (os.length + 1) = i + 1 + os.length by omega]
  rw [List.range_succ_eq_map,List.map_cons,List.map_map]
  have e1:(if i + 0 + 1 = i then m else M (i + 0 + 1)) = m':=by rw [if_neg (by omega)];exact h2
  have e2:((fun j => if i + j + 1 = i then m else M (i + j + 1)) ∘ Nat.succ) = fun j => M (i + 1 + j + 1):=by
   funext j
   simp only [Function.comp,Nat.succ_eq_add_one]
   rw [if_neg (by omega)]
   congr 1;omega
  rw [e2,e1]
  simpa using h6
theorem addL_sub {op:Op} {i:Nat} {e:Env} {v:Value} {ls:List Ld}:∀ l ∈ ls,l ∈ addL op i e v ls:=by
 intro l hl
 unfold addL
 split
 ·split
  ·simp [hl]
  ·exact hl
 ·exact hl
theorem addL_has {op:Op} {i:Nat} {e:Env} {v:Value} {ls:List Ld} {t:Nat} {x:Operand} {a:Addr} (h:op = .load t x) (hx:opnd e x = some (.pointer (some a))):⟨i,t,a,v⟩ ∈ addL op i e v ls:=by
 subst h
 simp [addL,hx]
theorem lk_know {e:Env} {s:Nat} {b:Bool} (h:lk s e = some (.bool b)) (t:Nat):lk t ((s,.bool b) :: e) = lk t e:=by
 simp only [lk]
 cases hb:Nat.beq s t with
 | false => rfl
 | true => rw [← Nat.eq_of_beq_eq_true hb,h];rfl
theorem drawX_trace (hc:CallDet C.call) {all:List Oper} {cs:List (List Nat)} {K:Env → Mem → Option R}:∀ (os:List Oper) (i:Nat) (e:Env) (m:Mem) (ms:List Mem) (ls:List Ld),
 drawX C all cs i os e m ms ls K = some r → Trace C all cs i os e m ms ls K r
 | [],i,e,m,ms,ls,h => by
  refine ⟨fun _ => e,fun _ => m,fun _ => undef,e,ls,fun t => rfl,rfl,by simp,fun t => rfl,fun l hl => hl,?_⟩
  simpa [drawX] using h
 | o :: os,i,e,m,ms,ls,h => by
  have runs:∀ (e1:Env),(∀ t,lk t e1 = lk t e) → Runs all e o → oper C o.op e1 m (fun v m' => drawX C all cs (i + 1) os (putE e1 o.dst v) m' (ms ++ [m']) (addL o.op i e1 v ls) K) = some r → Trace C all cs i (o :: os) e m ms ls K r:=by
   intro e1 he hr h
   obtain ⟨v,m',h1,_,h2⟩:=oper_one hc h
   refine Trace.cons he (.inl ⟨hr,fun K' => ?_⟩) addL_sub ?_ (drawX_trace hc os (i + 1) _ m' _ _ h1)
   ·rw [← h2 K'];exact oper_env fun x _ => opnd_ext (fun t => (he t).symm) x
   ·intro t x a hx _ hp
    exact addL_has hx (by rw [opnd_ext he x];exact hp)
  have skips:∀ (e1:Env),(∀ t,lk t e1 = lk t e) → Skips all e o → drawX C all cs (i + 1) os (putE e1 o.dst undef) m (ms ++ [m]) ls K = some r → Trace C all cs i (o :: os) e m ms ls K r:=by
   intro e1 he hr h
   refine Trace.cons he (.inr ⟨hr,rfl,rfl⟩) (fun l hl => hl) ?_ (drawX_trace hc os (i + 1) _ m _ _ h)
   intro t x a _ hruns _
   exfalso
   obtain ⟨j,want,s,a1,a2,a3⟩:=hr
   rcases hruns with b1 | ⟨j',want',s',b1,b2,b3⟩
   ·rw [a1] at b1;cases b1
   ·rw [a1] at b1;simp only [Option.some.injEq,Prod.mk.injEq] at b1
    obtain ⟨rfl,rfl⟩:=b1
    rw [a2] at b2;simp only [Option.some.injEq] at b2;subst b2
    rcases a3 with ⟨t',c1,c2⟩ | ⟨cs',c1⟩
    ·rw [c1] at b3;simp at b3;exact c2 b3
    ·rw [c1] at b3;simp at b3
  unfold drawX at h
  split at h
  ·rename_i hg;exact runs e (fun _ => rfl) (.inl hg) h
  ·rename_i j want hg
   split at h
   ·cases h
   ·rename_i s hsl
    split at h
    ·rename_i t ht
     cases t <;> cases want <;> simp only [cond_true,cond_false] at h
     ·exact runs _ (lk_know ht) (.inr ⟨_,_,_,hg,hsl,ht⟩) h
     ·exact skips _ (lk_know ht) ⟨_,_,_,hg,hsl,.inl ⟨_,ht,by simp⟩⟩ h
     ·exact skips _ (lk_know ht) ⟨_,_,_,hg,hsl,.inl ⟨_,ht,by simp⟩⟩ h
     ·exact runs _ (lk_know ht) (.inr ⟨_,_,_,hg,hsl,ht⟩) h
    ·rename_i cs' ht
     exact skips _ (fun _ => rfl) ⟨_,_,_,hg,hsl,.inr ⟨_,ht⟩⟩ h
    ·cases h
theorem ite_some {R:Type} {c:Prop} [Decidable c] {x r:R} (h:(if c then some x else none) = some r):c:=by
 by_cases hc:c
 ·exact hc
 ·rw [if_neg hc] at h;cases h
def Has (listed:Array Bool) (k:Nat):Prop:=listed.getD k false = true
theorem has_set {listed:Array Bool} {i k:Nat} (hi:i < listed.size):Has (listed.setIfInBounds i true) k ↔ k = i ∨ Has listed k:=by
 unfold Has
 by_cases hik:i = k
 ·subst hik;simp [hi]
 ·rw [getD_set_ne false hik]
  constructor
  ·exact .inr
  ·rintro (h | h)
   ·exact absurd h.symm hik
   ·exact h
theorem not_has {listed:Array Bool} {k:Nat} (h:listed.getD k true = false):k < listed.size ∧ ¬ Has listed k:=by
 unfold Has
 by_cases hk:k < listed.size
 ·refine ⟨hk,?_⟩
  simp [hk] at h ⊢;exact h
 ·simp [Array.getElem?_eq_none (Nat.le_of_not_lt hk)] at h
theorem not_has' {listed:Array Bool} {k:Nat} (hk:k < listed.size) (h:¬ Has listed k):listed.getD k true = false:=by
 unfold Has at h
 simp [hk] at h ⊢;exact h
theorem countP_lt {p q:Nat → Bool} {i:Nat}:∀ {l:List Nat},(∀ x ∈ l,p x = true → q x = true) → i ∈ l → q i = true → p i = false → l.countP p < l.countP q
 | [],_,hi,_,_ => by cases hi
 | x :: l,h,hi,hq,hp => by
  have hm:l.countP p ≤ l.countP q:=List.countP_mono_left fun y hy => h y (by simp [hy])
  rcases List.mem_cons.1 hi with rfl | hi
  ·simp only [List.countP_cons,hq,hp];simp;omega
  ·have:=countP_lt (fun y hy => h y (by simp [hy])) hi hq hp
   simp only [List.countP_cons]
   have hx:=h x (by simp)
   cases h1:p x with
   | false => simp;split <;> omega
   | true => simp [hx h1];omega
theorem Fr.ext {T:TT} {nt:Nat} {B:Nat → Prop} {ρ:Rn} {e e':Env} {m:Mem} {a:Act} {w:World} (h:Fr P T nt B ρ e m a w) (he:∀ t,lk t e' = lk t e):Fr P T nt B ρ e' m a w :=
 ⟨⟨h.st.tok,fun t u ht => h.st.env t u (by rw [← he t];exact ht),h.st.mem⟩,h.size,h.defers⟩
section
variable {ops:Array Oper} {cs:List (List Nat)} {E:Nat → Env} {M:Nat → Mem} {V:Nat → Value} {e0 eN:Env} {m0:Mem} {ρ0:Rn} {w0:World} {nt:Nat} {B:Nat → Prop} {ro:Option Nat} {tw:Prop} {fl:Nat → Prop} {Q:Exit → Act → World → Prop} {K:Env → Mem → Option R} {ls':List Ld}
structure At (P:Program) (C:Ctx R) (ops:Array Oper) (nt:Nat) (B:Nat → Prop) (M:Nat → Mem) (V:Nat → Value) (e0:Env) (ρ0:Rn) (w0:World) (fl:Nat → Prop) (listed:Array Bool) (a:Act) (w:World) (ρ':Rn) (e':Env) (β:Nat → Nat) (j:Nat):Prop where
 le:j ≤ ops.size
 eff:∀ k o,ops.toList[k]? = some o → effB o.op = true → ¬ fl k → (Has listed k ↔ k < j)
 low:∀ f,fl f → f < j → Has listed f
 fr:Fr P C.T nt B ρ' e' (M j) a w
 evo:Evo ρ0 (M 0) w0 ρ' (M j) w
 old:∀ t,(∀ k o,ops.toList[k]? = some o → Has listed k → o.dst ≠ some t) → lk t e' = lk t e0
 new:∀ k o t,ops.toList[k]? = some o → Has listed k → o.dst = some t → (fl k → k < j) → lk t e' = some (V k)
 flo:∀ f o t d,ops.toList[f]? = some o → fl f → Has listed f → j ≤ f → o.op = .alloc t → o.dst = some d → lk d e' = none ∧ a.tmps.getD d undef = .pointer (some ⟨β f,0,none⟩) ∧ w.heap[β f]? = some (.cells ⟨(C.T t).zero⟩ t (0,0)) ∧ w0.heap.size ≤ β f ∧ ¬ Named ρ' (M j) (β f)
 dif:∀ f f',fl f → fl f' → Has listed f → Has listed f' → j ≤ f → j ≤ f' → β f = β f' → f = f'
structure Mid (P:Program) (C:Ctx R) (ops:Array Oper) (nt:Nat) (B:Nat → Prop) (M:Nat → Mem) (V:Nat → Value) (e0:Env) (ρ0:Rn) (w0:World) (tw:Prop) (fl:Nat → Prop) (listed:Array Bool) (a:Act) (w:World):Prop where
 size:listed.size = ops.size
 two:tw → Has listed 1 ∧ Has listed 2
 closed:∀ i o,ops.toList[i]? = some o → Has listed i → ∀ k ∈ preOf o,Has listed k
 ex:∃ ρ' e' β j,At P C ops nt B M V e0 ρ0 w0 fl listed a w ρ' e' β j
theorem clo_has (hf:Fine ops.toList cs tw fl) {listed:Array Bool} (hcl:∀ i o,ops.toList[i]? = some o → Has listed i → ∀ k ∈ preOf o,Has listed k) :
 ∀ (i:Nat) o,ops.toList[i]? = some o → (∀ k ∈ preOf o,Has listed k) → ∀ k ∈ cs.getD i [],Has listed k:=by
 intro i
 induction i using Nat.strongRecOn with
 | _ i ih =>
  intro o ho hp k hk
  rcases hf.clo i o ho k hk with h | ⟨j,hj,h⟩
  ·exact hp k h
  ·have hlt:=hf.low i o ho j hj
   have hio:i < ops.toList.length:=(List.getElem?_eq_some_iff.1 ho).1
   have hj':ops.toList[j]? = some (ops.toList[j]'(by omega)):=List.getElem?_eq_getElem (by omega)
   exact ih j hlt _ hj' (hcl j _ hj' (hp j hj)) k h
theorem opnd_reads {all:List Oper} {o:Oper} {e e':Env} (h:∀ t ∈ readsO all o,lk t e = lk t e'):∀ x ∈ o.op.operands.toList,opnd e x = opnd e' x:=by
 intro x hx
 cases x with
 | tmp t => exact h t (by unfold readsO;exact List.mem_append_left _ (List.mem_filterMap.2 ⟨_,hx,rfl⟩))
 | const c => rfl
 | func f => rfl
 | global g => rfl
theorem slot_reads {all:List Oper} {o:Oper} {j s:Nat} {want:Bool} (hg:o.guard = some (j,want)) (hs:slotOf all j = some s):s ∈ readsO all o:=by
 unfold readsO
 rw [hg]
 exact List.mem_append_right _ (by simp [hs])
theorem region_any (hcall:CallOk P C.call) (hf:Fine ops.toList cs tw fl) (hd:∀ o ∈ ops.toList,dok nt o = true) (hpc:∀ o ∈ ops.toList,pureConv C.T o.op = true)
 (hE0:∀ t,lk t (E 0) = lk t e0)
 (hstep:∀ j o,ops.toList[j]? = some o → StepP C ops.toList (E j) (M j) o (V j) (M (j + 1)) ∧ (∀ t,lk t (E (j + 1)) = lk t (putE (E j) o.dst (V j))) ∧
   (∀ t x a,o.op = .load t x → Runs ops.toList (E j) o → opnd (E j) x = some (.pointer (some a)) → ⟨j,t,a,V j⟩ ∈ ls'))
 (hchk:∀ l ∈ ls',∀ m ∈ memsOf ops.toList cs ((List.range (ops.size + 1)).map M) l.i,∀ K':Value → Option R,ldT C.T l.t m l.a K' = K' l.v)
 (hK:∀ e' ρ' a' w',(∀ t,lk t e' = lk t (E ops.size)) → Fr P C.T nt B ρ' e' (M ops.size) a' w' → Evo ρ0 (M 0) w0 ρ' (M ops.size) w' → Q .normal a' w') (hr:Nonempty R) :
 ∀ (fuel:Nat) (listed:Array Bool) (a:Act) (w:World),Mid P C ops nt B M V e0 ρ0 w0 tw fl listed a w → (List.range ops.size).countP (fun k => !(listed.getD k false)) ≤ fuel → wpAnyIn (fenceR ro) 0 P .any ops Q fuel listed a w:=by
 classical
 have hlen:ops.toList.length = ops.size:=by simp
 have getop:∀ i,i < ops.size → ∃ o,ops.toList[i]? = some o:=fun i hi => ⟨_,List.getElem?_eq_getElem (by rw [hlen];exact hi)⟩
 have ltop:∀ {i o},ops.toList[i]? = some o → i < ops.size:=fun {i o} h => by have:=(List.getElem?_eq_some_iff.1 h).1;rwa [hlen] at this
 obtain ⟨r0⟩:=hr
 have still1:∀ i o,ops.toList[i]? = some o → effB o.op = false → M (i + 1) = M i:=by
  intro i o ho hb
  rcases (hstep i o ho).1 with ⟨_,h1⟩ | ⟨_,_,h1⟩
  ·have h2:=h1 (fun _ m => if m = M (i + 1) then some r0 else none)
   rw [if_pos rfl] at h2
   obtain ⟨v,m',h3,h4,_⟩:=oper_one hcall.det h2
   rw [← (ite_some h3),h4 hb]
  ·exact h1
 have still:∀ b,b ≤ ops.size → ∀ a,a ≤ b → (∀ k o,ops.toList[k]? = some o → a ≤ k → k < b → effB o.op = false) → M a = M b:=by
  intro b
  induction b with
  | zero => intro _ a ha _;rw [Nat.le_zero.1 ha]
  | succ b ih =>
   intro hb a ha h
   rcases Nat.lt_or_ge b a with hab | hab
   ·rw [show a = b + 1 by omega]
   ·obtain ⟨o,ho⟩:=getop b (by omega)
    rw [still1 b o ho (h b o ho hab (by omega))]
    exact ih (by omega) a hab fun k o hk h1 h2 => h k o hk h1 (by omega)
 have env:∀ i,i ≤ ops.size → ∀ t,((∀ k o,ops.toList[k]? = some o → k < i → o.dst ≠ some t) → lk t (E i) = lk t e0) ∧ ∀ k o,ops.toList[k]? = some o → k < i → o.dst = some t → lk t (E i) = some (V k):=by
  intro i
  induction i with
  | zero => intro _ t;exact ⟨fun _ => hE0 t,fun k o _ hk => by omega⟩
  | succ i ih =>
   intro hi t
   obtain ⟨o,ho⟩:=getop i (by omega)
   obtain ⟨ih1,ih2⟩:=ih (by omega) t
   have hn:=(hstep i o ho).2.1 t
   constructor
   ·intro h
    rw [hn]
    have h0:=h i o ho (by omega)
    have:lk t (putE (E i) o.dst (V i)) = lk t (E i):=by
     cases hd':o.dst with
     | none => rfl
     | some d =>
      simp only [putE,lk]
      cases hb:Nat.beq d t with
      | false => rfl
      | true => rw [hd',Nat.eq_of_beq_eq_true hb] at h0;exact absurd rfl h0
    rw [this]
    exact ih1 fun k o' hk hlt => h k o' hk (by omega)
   ·intro k o' hk hlt hdst
    rw [hn]
    rcases Nat.lt_or_ge k i with hki | hki
    ·have h0:=hf.dst i k o o' t ho hk (by omega) hdst
     have:lk t (putE (E i) o.dst (V i)) = lk t (E i):=by
      cases hd':o.dst with
      | none => rfl
      | some d =>
       simp only [putE,lk]
       cases hb:Nat.beq d t with
       | false => rfl
       | true => rw [hd',Nat.eq_of_beq_eq_true hb] at h0;exact absurd rfl h0
     rw [this];exact ih2 k o' hk hki hdst
    ·have:k = i:=by omega
     subst this
     rw [ho] at hk;simp only [Option.some.injEq] at hk;subst hk
     rw [hdst]
     simp [putE,lk]
 have flov:∀ (i:Nat) (o:Oper) (t:TypeId),ops.toList[i]? = some o → o.op = .alloc t → fl i → V i = ptrTo (M i).length ∧ M (i + 1) = M i ++ [.live (C.T t).zero] ∧ (C.T t).d ≠ .other:=by
  intro i o t ho hop hfl
  obtain ⟨o',t',d,q1,q2,q3,q4,q5⟩:=hf.flo i hfl
  rw [ho] at q1;cases q1
  rcases (hstep i o ho).1 with ⟨_,h1⟩ | ⟨⟨j,want,s,h1,_⟩,_⟩
  ·rw [hop] at h1
   have h2:=h1 (fun v m => if v = V i ∧ m = M (i + 1) then some r0 else none)
   rw [if_pos ⟨rfl,rfl⟩] at h2
   have hne:(C.T t).d ≠ .other:=by
    intro hd
    simp only [oper,hd] at h2
    cases h2
   have h3:(if ptrTo (M i).length = V i ∧ M i ++ [MObj.live (C.T t).zero] = M (i + 1) then some r0 else none) = some r0:=by
    simp only [oper] at h2
    exact h2
   obtain ⟨h4,h5⟩:=ite_some h3
   exact ⟨h4.symm,h5.symm,hne⟩
  ·rw [q4] at h1;cases h1
 have lk_ne:∀ {d t:Nat} {v:Value} {e:Env},t ≠ d → lk t ((d,v) :: e) = lk t e:=by
  intro d t v e h
  simp only [lk]
  cases hb:Nat.beq d t with
  | false => rfl
  | true => exact absurd (Nat.eq_of_beq_eq_true hb).symm h
 have lk_eq:∀ {d:Nat} {v:Value} {e:Env},lk d ((d,v) :: e) = some v:=by intro d v e;simp [lk]
 have hdo:∀ (i:Nat) (o:Oper),ops.toList[i]? = some o → ∀ x,o.dst = some x → x < nt:=by
  intro i o ho x hx
  have:=hd o (List.mem_of_getElem? ho)
  simpa [dok,hx] using this
 have adv1:∀ listed a w ρ' e' β j,At P C ops nt B M V e0 ρ0 w0 fl listed a w ρ' e' β j → j < ops.size → (∀ o,ops.toList[j]? = some o → effB o.op = true → fl j ∧ Has listed j) → ∃ ρ'' e'',At P C ops nt B M V e0 ρ0 w0 fl listed a w ρ'' e'' β (j + 1):=by
  intro listed a w ρ' e' β j hA hj hf1
  obtain ⟨o,ho⟩:=getop j hj
  cases hb:effB o.op with
  | false =>
   have hM:=still1 j o ho hb
   have nfl:¬ fl j:=fun h => by
    obtain ⟨o',t,d,h1,h2,_⟩:=hf.flo j h
    rw [ho] at h1;cases h1;rw [h2] at hb;cases hb
   refine ⟨ρ',e',⟨hj,fun k ok hk hbk hn => ?_,fun f h1 h2 => ?_,by rw [hM];exact hA.fr,by rw [hM];exact hA.evo,hA.old,fun k ok t hk hl hd hlt => hA.new k ok t hk hl hd fun h => ?_,fun f of t d h1 h2 h3 h4 h5 h6 => by rw [hM];exact hA.flo f of t d h1 h2 h3 (by omega) h5 h6,fun f f' h1 h2 h3 h4 h5 h6 => hA.dif f f' h1 h2 h3 h4 (by omega) (by omega)⟩⟩
   ·rw [hA.eff k ok hk hbk hn]
    have:k ≠ j:=by rintro rfl;rw [ho] at hk;cases hk;rw [hb] at hbk;cases hbk
    omega
   ·have:f ≠ j:=fun h => nfl (h ▸ h1)
    exact hA.low f h1 (by omega)
   ·have h1:k ≠ j:=fun h' => nfl (h' ▸ h)
    have:=hlt h;omega
  | true =>
   obtain ⟨hfl,hl⟩:=hf1 o ho hb
   obtain ⟨o',t,d,h1,h2,h3,h4,h5⟩:=hf.flo j hfl
   rw [ho] at h1;cases h1
   obtain ⟨hV,hM,hne⟩:=flov j o t ho h2 hfl
   obtain ⟨f1,f2,f3,f4,f5⟩:=hA.flo j o t d ho hfl hl (Nat.le_refl _) h2 h3
   have hplain:=(hA.fr.st.tok t hne).plain
   have hmem:=hA.fr.st.mem.name (elem:=t) (β:=β j) hplain f3 (hA.fr.st.mem.named_live f5) (fun n cs h he => f5 ⟨n,cs,.inr h,he⟩)
   have hag:=Rn.upd_agree ρ' (M j).length (β j) (C.T t).zero.length
   have hlen:(M j).length ≤ (M (j + 1)).length:=by rw [hM];simp
   have hget:∀ {x:MObj} (n:Nat),(M j ++ [MObj.live (C.T t).zero])[n]? = some x → (n < (M j).length ∧ (M j)[n]? = some x) ∨ (n = (M j).length ∧ x = .live (C.T t).zero):=by
    intro x n hn
    rw [getElem?_snoc] at hn
    split at hn
    ·rename_i hlt;exact .inl ⟨hlt,hn⟩
    ·split at hn
     ·rename_i h2;simp at hn;exact .inr ⟨h2,hn.symm⟩
     ·simp at hn
   refine ⟨ρ'.upd (M j).length (β j) (C.T t).zero.length,(d,V j) :: e',⟨hj,fun k ok hk hbk hn => ?_,fun f g1 g2 => ?_,⟨⟨hA.fr.st.tok,?_,by rw [hM];exact hmem⟩,hA.fr.size,hA.fr.defers⟩,
    ⟨fun n hn => ?_,Nat.le_trans hA.evo.len hlen,hA.evo.size,hA.evo.frame,?_,?_,hA.evo.tape,hA.evo.os,hA.evo.out⟩,fun u hu => ?_,fun k ok u hk hlk hdst hlt => ?_,fun f of u d' g1 g2 g3 g4 g5 g6 => ?_,fun f f' g1 g2 g3 g4 g5 g6 => hA.dif f f' g1 g2 g3 g4 (by omega) (by omega)⟩⟩
   ·rw [hA.eff k ok hk hbk hn]
    have:k ≠ j:=fun h => hn (h ▸ hfl)
    omega
   ·by_cases hfj:f = j
    ·subst hfj;exact hl
    ·exact hA.low f g1 (by omega)
   ·intro u v hu
    by_cases hud:u = d
    ·subst hud
     rw [lk_eq] at hu;cases hu
     refine ⟨by rw [hA.fr.size];exact hdo j o ho u h3,?_⟩
     rw [f2,hV]
     have:=VR.ptr (ρ:=ρ'.upd (M j).length (β j) (C.T t).zero.length) (L:=(M (j + 1)).length) ⟨(M j).length,0,none⟩ (by rw [hM];simp)
     simpa [toR,Rn.upd,ptrTo] using this
    ·rw [lk_ne hud] at hu
     obtain ⟨g1,g2⟩:=hA.fr.st.env u v hu
     exact ⟨g1,g2.mono hag hlen⟩
   ·have a1:=hA.evo.agree n hn
    have a2:=hag n (Nat.lt_of_lt_of_le hn hA.evo.len)
    exact ⟨a2.blk.trans a1.blk,a2.sz.trans a1.sz,a2.sh.trans a1.sh⟩
   ·intro n cs' hn
    rw [hM] at hn
    rcases hget n hn with ⟨hlt,hn⟩ | ⟨rfl,hn⟩
    ·rw [(hag n hlt).blk];exact hA.evo.fresh n cs' hn
    ·right;simpa [Rn.upd] using f4
   ·intro b hb'
    rw [hM] at hb'
    rcases Named.snoc hb' with hb' | rfl
    ·exact hA.evo.named b hb'
    ·exact .inr f4
   ·rw [lk_ne (fun he => hu j o ho hl (by rw [he];exact h3))]
    exact hA.old u hu
   ·by_cases hkj:k = j
    ·subst hkj
     rw [ho] at hk;cases hk
     rw [h3] at hdst;cases hdst
     exact lk_eq
    ·rw [lk_ne (fun he => hf.dst j k o ok u ho hk (Ne.symm hkj) hdst (by rw [he];exact h3))]
     exact hA.new k ok u hk hlk hdst fun h => by have:=hlt h;omega
   ·obtain ⟨q1,q2,q3,q4,q5⟩:=hA.flo f of u d' g1 g2 g3 (by omega) g5 g6
    have hne':f ≠ j:=by omega
    refine ⟨?_,q2,q3,q4,fun hn => ?_⟩
    ·rw [lk_ne (fun he => hf.dst j f o of d' ho g1 (Ne.symm hne') g6 (by rw [he];exact h3))];exact q1
    ·rw [hM] at hn
     rcases Named.snoc hn with hn | hn
     ·exact q5 hn
     ·exact hne' (hA.dif f j g2 hfl g3 hl (by omega) (Nat.le_refl _) hn)
 have adv:∀ listed a w β n ρ' e' j,At P C ops nt B M V e0 ρ0 w0 fl listed a w ρ' e' β j → j + n ≤ ops.size → (∀ k o,ops.toList[k]? = some o → effB o.op = true → j ≤ k → k < j + n → fl k ∧ Has listed k) → ∃ ρ'' e'',At P C ops nt B M V e0 ρ0 w0 fl listed a w ρ'' e'' β (j + n):=by
  intro listed a w β n
  induction n with
  | zero => intro ρ' e' j hA _ _;exact ⟨ρ',e',hA⟩
  | succ n ih =>
   intro ρ' e' j hA hle h
   obtain ⟨ρ2,e2,h2⟩:=ih ρ' e' j hA (by omega) fun k o hk hb h1 h2 => h k o hk hb h1 (by omega)
   exact adv1 _ _ _ _ _ _ _ h2 (show j + n < ops.size by omega) fun o ho hb => h (j + n) o ho hb (by omega) (by omega)
 have fin:∀ listed a w,Mid P C ops nt B M V e0 ρ0 w0 tw fl listed a w → (∀ k,k < ops.size → Has listed k) → Q .normal a w:=by
  intro listed a w hm hall
  obtain ⟨ρ1,e1,β,j,hA1⟩:=hm.ex
  have hj1:=hA1.le
  obtain ⟨ρ',e',hA⟩:=adv listed a w β (ops.size - j) ρ1 e1 j hA1 (by omega) fun k o hk hb h1 h2 => by
   have hl:=hall k (ltop hk)
   by_cases hfk:fl k
   ·exact ⟨hfk,hl⟩
   ·have:=(hA1.eff k o hk hb hfk).1 hl;omega
  rw [show j + (ops.size - j) = ops.size by omega] at hA
  refine hK e' ρ' a w (fun t => ?_) hA.fr hA.evo
  obtain ⟨e1,e2⟩:=env ops.size (Nat.le_refl _) t
  by_cases hx:∃ (k:Nat) (o:Oper),ops.toList[k]? = some o ∧ o.dst = some t
  ·obtain ⟨k,o,hk,hdst⟩:=hx
   rw [hA.new k o t hk (hall k (ltop hk)) hdst (fun _ => ltop hk),e2 k o hk (ltop hk) hdst]
  ·rw [hA.old t fun k o hk _ hdst => hx ⟨k,o,hk,hdst⟩,e1 fun k o hk _ hdst => hx ⟨k,o,hk,hdst⟩]
 have allof:∀ listed a w,Mid P C ops nt B M V e0 ρ0 w0 tw fl listed a w → Region.ready .any ops listed = [] → ∀ k,k < ops.size → Has listed k:=by
  intro listed a w hm hr k
  induction k using Nat.strongRecOn with
  | _ k ih =>
   intro hk
   apply Classical.byContradiction
   intro hno
   obtain ⟨o,ho⟩:=getop k hk
   have:k ∈ Region.ready .any ops listed:=by
    refine mem_ready.2 ⟨not_has' (by rw [hm.size];exact hk) hno,o,by rw [← Array.getElem?_toList];exact ho,fun ed hed hb => ?_⟩
    have hp:ed.on ∈ preOf o:=List.mem_filterMap.2 ⟨ed,Array.mem_toList_iff.2 hed,by simp [hb]⟩
    have hlt:=hf.low k o ho _ hp
    exact ih ed.on hlt (by omega)
   rw [hr] at this;cases this
 have one:∀ listed a w i,Mid P C ops nt B M V e0 ρ0 w0 tw fl listed a w → i ∈ Region.ready .any ops listed → ∀ next:Act → World → Prop,
  (∀ a' w',Mid P C ops nt B M V e0 ρ0 w0 tw fl (listed.setIfInBounds i true) a' w' → next a' w') → wpOpIn (fenceR ro) 0 P ops Q i next a w:=by
  intro listed a w i hm hi next hnext
  obtain ⟨hun,o,ho',hpre'⟩:=mem_ready.1 hi
  obtain ⟨hisz,hno⟩:=not_has hun
  have ho:ops.toList[i]? = some o:=by rw [Array.getElem?_toList];exact ho'
  have hpre:∀ k ∈ preOf o,Has listed k:=by
   intro k hk
   obtain ⟨ed,hed,hb⟩:=List.mem_filterMap.1 hk
   cases hbb:Region.binds .any ed with
   | false => rw [hbb] at hb;simp at hb
   | true =>
    rw [hbb] at hb;simp only [cond_true,Option.some.injEq] at hb;subst hb
    exact hpre' ed (Array.mem_toList_iff.1 hed) hbb
  have hclo:=clo_has hf hm.closed i o ho hpre
  have hilt:=ltop ho
  have hcl':∀ k ok,ops.toList[k]? = some ok → Has (listed.setIfInBounds i true) k → ∀ p ∈ preOf ok,Has (listed.setIfInBounds i true) p:=by
   intro k ok hk hl p hp
   rw [has_set hisz] at hl ⊢
   rcases hl with rfl | hl
   ·rw [ho] at hk;simp only [Option.some.injEq] at hk;subst hk
    exact .inr (hpre p hp)
   ·exact .inr (hm.closed k ok hk hl p hp)
  by_cases hfi:fl i
  ·obtain ⟨ρ',e',β,j,hA⟩:=hm.ex
   obtain ⟨o',t,d,q1,q2,q3,q4,q5⟩:=hf.flo i hfi
   rw [ho] at q1;cases q1
   obtain ⟨hV,hM,hne⟩:=flov i o t ho q2 hfi
   have hji:j ≤ i:=by
    rcases Nat.lt_or_ge i j with h | h
    ·exact absurd (hA.low i hfi h) hno
    ·exact h
   unfold wpOpIn
   rw [ho']
   simp only
   rw [if_pos (show Region.wanted o (yielded ops a.tmps) = true by simp [Region.wanted,q4])]
   refine toIn (fun c hc => by rw [q2] at hc;cases hc) ?_
   unfold Oper.wp
   rw [alloc_run hA.fr.st.tok q2 hne a w]
   have hold:∀ b,b < w.heap.size → ({ w with heap:=w.heap.push (.cells ⟨(C.T t).zero⟩ t) }:World).heap[b]? = w.heap[b]?:=fun b hb => by
    simp only [Array.getElem?_push];rw [if_neg (by omega)]
   have hnew:({ w with heap:=w.heap.push (.cells ⟨(C.T t).zero⟩ t) }:World).heap[w.heap.size]? = some (.cells ⟨(C.T t).zero⟩ t (0,0)):=by simp
   have hsz:w.heap.size ≤ ({ w with heap:=w.heap.push (.cells ⟨(C.T t).zero⟩ t) }:World).heap.size:=by simp
   have hev:Evo ρ' (M j) w ρ' (M j) { w with heap:=w.heap.push (.cells ⟨(C.T t).zero⟩ t) }:=⟨fun _ _ => ⟨rfl,rfl,rfl⟩,Nat.le_refl _,hsz,fun b hb _ => hold b hb,fun n cs h => .inl ⟨n,cs,h,rfl⟩,fun _ h => .inl h,rfl,rfl,rfl⟩
   have hmem:MRep ρ' (M j) { w with heap:=w.heap.push (.cells ⟨(C.T t).zero⟩ t) }:=hA.fr.st.mem.later hold hsz
   generalize hW:({ w with heap:=w.heap.push (.cells ⟨(C.T t).zero⟩ t) }:World) = w' at *
   have hdlt:d < a.tmps.size:=by rw [hA.fr.size];exact hdo i o ho d q3
   refine hnext _ _ ⟨by simp [hm.size],fun q => ⟨(has_set hisz).2 (.inr (hm.two q).1),(has_set hisz).2 (.inr (hm.two q).2)⟩,hcl',ρ',drop1 d e',fun f => if f = i then w.heap.size else β f,j,⟨hA.le,fun k ok hk hbk hn => ?_,fun f g1 g2 => (has_set hisz).2 (.inr (hA.low f g1 g2)),
    ⟨⟨hA.fr.st.tok,?_,hmem⟩,by rw [put_size];exact hA.fr.size,by rw [put_defers];exact hA.fr.defers.evo hA.fr.st.mem hev⟩,hA.evo.trans hev,fun u hu => ?_,fun k ok u hk hlk hdst hlt => ?_,fun f of u d' g1 g2 g3 g4 g5 g6 => ?_,fun f f' g1 g2 g3 g4 g5 g6 hbe => ?_⟩⟩
   ·rw [has_set hisz,← hA.eff k ok hk hbk hn]
    exact ⟨fun h => h.resolve_left fun he => hn (he ▸ hfi),.inr⟩
   ·intro u v hu
    rw [lk_drop1] at hu
    by_cases hud:u = d
    ·rw [if_pos hud] at hu;cases hu
    ·rw [if_neg hud] at hu
     obtain ⟨g1,g2⟩:=hA.fr.st.env u v hu
     rw [q3,put_other hud,put_size]
     exact ⟨g1,g2⟩
   ·rw [lk_drop1,if_neg (fun he => hu i o ho ((has_set hisz).2 (.inl rfl)) (by rw [he];exact q3))]
    exact hA.old u fun k ok hk hl => hu k ok hk ((has_set hisz).2 (.inr hl))
   ·by_cases hki:k = i
    ·subst hki;have:=hlt hfi;omega
    ·have hl':=((has_set hisz).1 hlk).resolve_left hki
     rw [lk_drop1,if_neg (fun he => hf.dst i k o ok u ho hk (Ne.symm hki) hdst (by rw [he];exact q3))]
     exact hA.new k ok u hk hl' hdst hlt
   ·by_cases hfi':f = i
    ·subst hfi'
     rw [ho] at g1;cases g1
     rw [q3] at g6;cases g6
     rw [q2] at g5;cases g5
     refine ⟨by rw [lk_drop1,if_pos rfl],by rw [q3,put_same hdlt];simp,by simp only [if_true];exact hnew,by simp only [if_true];exact hA.evo.size,fun hn => ?_⟩
     simp only [if_true] at hn
     have:=hA.fr.st.mem.named_lt hn
     omega
    ·have hl':=((has_set hisz).1 g3).resolve_left hfi'
     obtain ⟨z1,z2,z3,z4,z5⟩:=hA.flo f of u d' g1 g2 hl' g4 g5 g6
     have hdd:d' ≠ d:=fun he => hf.dst i f o of d' ho g1 (Ne.symm hfi') g6 (by rw [he];exact q3)
     simp only [if_neg hfi']
     refine ⟨by rw [lk_drop1,if_neg hdd];exact z1,by rw [q3,put_other hdd];exact z2,?_,z4,z5⟩
     rw [hold _ (Array.getElem?_eq_some_iff.1 z3).1];exact z3
   ·have lt:∀ f,fl f → Has (listed.setIfInBounds i true) f → j ≤ f → f ≠ i → β f < w.heap.size:=fun f g1 g2 g3 g4 => by
     obtain ⟨of,u,d',z1,z2,z3,_⟩:=hf.flo f g1
     obtain ⟨_,_,y3,_⟩:=hA.flo f of u d' z1 g1 (((has_set hisz).1 g2).resolve_left g4) g3 z2 z3
     exact (Array.getElem?_eq_some_iff.1 y3).1
    by_cases c1:f = i
    ·by_cases c2:f' = i
     ·rw [c1,c2]
     ·simp only [if_pos c1,if_neg c2] at hbe
      have:=lt f' g2 g4 g6 c2;omega
    ·by_cases c2:f' = i
     ·simp only [if_neg c1,if_pos c2] at hbe
      have:=lt f g1 g3 g5 c1;omega
     ·simp only [if_neg c1,if_neg c2] at hbe
      exact hA.dif f f' g1 g2 (((has_set hisz).1 g3).resolve_left c1) (((has_set hisz).1 g4).resolve_left c2) g5 g6 hbe
  have clow:∀ (i:Nat) o,ops.toList[i]? = some o → ∀ k ∈ cs.getD i [],k < i:=by
   intro i
   induction i using Nat.strongRecOn with
   | _ i ih =>
    intro o ho k hk
    rcases hf.clo i o ho k hk with h | ⟨j,hj,h⟩
    ·exact hf.low i o ho k h
    ·have hlt:=hf.low i o ho j hj
     obtain ⟨oj,hoj⟩:=getop j (by have:=ltop ho;omega)
     have:=ih j hlt oj hoj k h
     omega
  obtain ⟨ρ',e',β,j,hA,hji,hflo⟩:∃ ρ' e' β j,At P C ops nt B M V e0 ρ0 w0 fl listed a w ρ' e' β j ∧ (effB o.op = true → j = i) ∧ ∀ f,fl f → (f ∈ cs.getD i [] ∨ f ∈ preOf o) → f < j:=by
   obtain ⟨ρ1,e1,β,j,hA⟩:=hm.ex
   cases hb:effB o.op with
   | true =>
    have hle:j ≤ i:=by
     rcases Nat.lt_or_ge i j with h | h
     ·exact absurd ((hA.eff i o ho hb hfi).2 h) hno
     ·exact h
    obtain ⟨ρ2,e2,h2⟩:=adv listed a w β (i - j) ρ1 e1 j hA (by omega) fun k ok hk hbk h1 h2 => by
     have hl:Has listed k:=by
      rcases hf.eff i k o ok ho hk hb hbk (by omega) with q | q | ⟨q1,q2,q3⟩
      ·exact hclo k q
      ·exact absurd q hfi
      ·exact absurd (q2 ▸ (hm.two q1).2) hno
     by_cases hfk:fl k
     ·exact ⟨hfk,hl⟩
     ·have:=(hA.eff k ok hk hbk hfk).1 hl;omega
    rw [show j + (i - j) = i by omega] at h2
    refine ⟨ρ2,e2,β,i,h2,fun _ => rfl,fun f h3 h4 => ?_⟩
    rcases h4 with h4 | h4
    ·exact clow i o ho f h4
    ·exact hf.low i o ho f h4
   | false =>
    have go:∀ b,b ≤ ops.size → ∃ ρ' e' j,At P C ops nt B M V e0 ρ0 w0 fl listed a w ρ' e' β j ∧ ∀ f,f < b → fl f → (f ∈ cs.getD i [] ∨ f ∈ preOf o) → f < j:=by
     intro b
     induction b with
     | zero => intro _;exact ⟨ρ1,e1,j,hA,fun f h => by omega⟩
     | succ b ih =>
      intro hb'
      obtain ⟨ρ2,e2,j2,h2,h3⟩:=ih (by omega)
      by_cases hc:fl b ∧ (b ∈ cs.getD i [] ∨ b ∈ preOf o) ∧ j2 ≤ b
      ·obtain ⟨c1,c2,c3⟩:=hc
       obtain ⟨ρ3,e3,h4⟩:=adv listed a w β (b + 1 - j2) ρ2 e2 j2 h2 (by omega) fun k ok hk hbk d1 d2 => by
        have hl:Has listed k:=by
         by_cases hkb:k = b
         ·subst hkb
          rcases c2 with c2 | c2
          ·exact hclo k c2
          ·exact hpre k c2
         ·exact hclo k (hf.fhas i b k o ok ho c1 c2 hk hbk (by omega))
        by_cases hfk:fl k
        ·exact ⟨hfk,hl⟩
        ·have:=(h2.eff k ok hk hbk hfk).1 hl;omega
       rw [show j2 + (b + 1 - j2) = b + 1 by omega] at h4
       exact ⟨ρ3,e3,b + 1,h4,fun f h5 _ _ => h5⟩
      ·refine ⟨ρ2,e2,j2,h2,fun f h5 h6 h7 => ?_⟩
       by_cases hfb:f = b
       ·subst hfb
        rcases Nat.lt_or_ge f j2 with h | h
        ·exact h
        ·exact absurd ⟨h6,h7,h⟩ hc
       ·exact h3 f (by omega) h6 h7
    obtain ⟨ρ2,e2,j2,h2,h3⟩:=go ops.size (Nat.le_refl _)
    refine ⟨ρ2,e2,β,j2,h2,(fun h => nomatch h),fun f h4 h5 => ?_⟩
    obtain ⟨of,_,_,z1,_⟩:=hf.flo f h4
    exact h3 f (ltop z1) h4 h5
  have hj:=hA.le
  have h2:=hA.fr
  have reads:∀ t ∈ readsO ops.toList o,lk t e' = lk t (E i):=by
   intro t ht
   obtain ⟨e1,e2⟩:=env i (by omega) t
   by_cases hx:∃ (k:Nat) (o':Oper),ops.toList[k]? = some o' ∧ o'.dst = some t ∧ k ≠ i
   ·obtain ⟨k,o',hk,hdst,hne⟩:=hx
    rcases hf.reads i k o o' t ho hk (Ne.symm hne) hdst ht with hp | hp
    ·rw [hA.new k o' t hk (hpre k hp) hdst (fun hfk => hflo k hfk (.inr hp)),e2 k o' hk (hf.low i o ho k hp) hdst]
    ·have hlow:=hf.low k o' hk i hp
     have hnl:¬ Has listed k:=fun hl => hno (hm.closed k o' hk hl i hp)
     have only:∀ k' o'',ops.toList[k']? = some o'' → o''.dst = some t → k' = k:=fun k' o'' hk' hd' => by
      apply Classical.byContradiction
      intro hne'
      exact hf.dst k' k o'' o' t hk' hk hne' hdst hd'
     rw [hA.old t fun k' o'' hk' hl hd' => hnl (only k' o'' hk' hd' ▸ hl),e1 fun k' o'' hk' hlt hd' => by have:=only k' o'' hk' hd';omega]
   ·rw [hA.old t fun k o' hk hl hdst => by
     by_cases hki:k = i
     ·subst hki;exact hno hl
     ·exact hx ⟨k,o',hk,hdst,hki⟩,e1 fun k o' hk hlt hdst => hx ⟨k,o',hk,hdst,by omega⟩]
  have hdo:=hdo i o ho
  have mid:∀ v' w' ρ2 j2,(j2 = j ∨ (j = i ∧ j2 = i + 1)) → (∀ k ok,ops.toList[k]? = some ok → effB ok.op = true → ¬ fl k → ((k = i ∨ Has listed k) ↔ k < j2)) → Fr P C.T nt B ρ2 (putE e' o.dst (V i)) (M j2) (a.put o.dst v') w' → Evo ρ' (M j) w ρ2 (M j2) w' →
   Mid P C ops nt B M V e0 ρ0 w0 tw fl (listed.setIfInBounds i true) (a.put o.dst v') w':=by
   intro v' w' ρ2 j2 hj2 a1 a2 a3
   have other:∀ t,o.dst ≠ some t → lk t (putE e' o.dst (V i)) = lk t e':=fun t h => by
    cases hd':o.dst with
    | none => rfl
    | some d => exact lk_ne fun he => h (by rw [he];exact hd')
   have otherT:∀ t,o.dst ≠ some t → (a.put o.dst v').tmps.getD t undef = a.tmps.getD t undef:=fun t h => by
    cases hd':o.dst with
    | none => simp [Act.put]
    | some d => exact put_other fun he => h (by rw [he];exact hd')
   refine ⟨by simp [hm.size],fun q => ⟨(has_set hisz).2 (.inr (hm.two q).1),(has_set hisz).2 (.inr (hm.two q).2)⟩,hcl',ρ2,_,β,j2,⟨by omega,fun k ok hk hb hn => by rw [has_set hisz];exact a1 k ok hk hb hn,fun f g1 g2 => ?_,a2,hA.evo.trans a3,fun t ht => ?_,fun k ok t hk hl hdst hlt => ?_,fun f of t d g1 g2 g3 g4 g5 g6 => ?_,fun f f' g1 g2 g3 g4 g5 g6 => ?_⟩⟩
   ·have:f ≠ i:=fun h => hfi (h ▸ g1)
    exact (has_set hisz).2 (.inr (hA.low f g1 (by omega)))
   ·rw [other t (ht i o ho ((has_set hisz).2 (.inl rfl)))]
    exact hA.old t fun k ok hk hl => ht k ok hk ((has_set hisz).2 (.inr hl))
   ·by_cases hki:k = i
    ·subst hki
     rw [ho] at hk;simp only [Option.some.injEq] at hk;subst hk
     rw [hdst];simp [putE,lk]
    ·have hl':Has listed k:=((has_set hisz).1 hl).resolve_left hki
     rw [other t (hf.dst i k o ok t ho hk (Ne.symm hki) hdst)]
     exact hA.new k ok t hk hl' hdst fun h => by have:=hlt h;omega
   ·have hfi':f ≠ i:=fun h => hfi (h ▸ g2)
    obtain ⟨z1,z2,z3,z4,z5⟩:=hA.flo f of t d g1 g2 (((has_set hisz).1 g3).resolve_left hfi') (by omega) g5 g6
    have hdd:=hf.dst i f o of d ho g1 (Ne.symm hfi') g6
    have hlt:=(Array.getElem?_eq_some_iff.1 z3).1
    refine ⟨by rw [other d hdd];exact z1,by rw [otherT d hdd];exact z2,?_,z4,fun hn => ?_⟩
    ·rw [a3.frame _ hlt (h2.st.mem.named_live z5)];exact z3
    ·rcases a3.named _ hn with h | h
     ·exact z5 h
     ·omega
   ·have q1:f ≠ i:=fun h => hfi (h ▸ g1)
    have q2:f' ≠ i:=fun h => hfi (h ▸ g2)
    exact hA.dif f f' g1 g2 (((has_set hisz).1 g3).resolve_left q1) (((has_set hisz).1 g4).resolve_left q2) (by omega) (by omega)
  have jeff:effB o.op = true → ∀ k ok,ops.toList[k]? = some ok → effB ok.op = true → ¬ fl k → ((k = i ∨ Has listed k) ↔ k < i + 1):=by
   intro hb k ok hk hbk hn
   rw [hA.eff k ok hk hbk hn,hji hb];omega
  have jstill:effB o.op = false → ∀ k ok,ops.toList[k]? = some ok → effB ok.op = true → ¬ fl k → ((k = i ∨ Has listed k) ↔ k < j):=by
   intro hb k ok hk hbk hn
   rw [hA.eff k ok hk hbk hn]
   have:k ≠ i:=by rintro rfl;rw [ho] at hk;simp only [Option.some.injEq] at hk;subst hk;rw [hb] at hbk;cases hbk
   omega
  unfold wpOpIn
  rw [ho']
  simp only
  rcases (hstep i o ho).1 with ⟨hruns,hop⟩ | ⟨hskips,hv,hm'⟩
  ·have hw:Region.wanted o (yielded ops a.tmps) = true:=by
    rcases hruns with hg | ⟨g,want,s,hg,hs,hl⟩
    ·simp [Region.wanted,hg]
    ·rw [← reads s (slot_reads hg hs)] at hl
     have hy:=yielded_of h2 hs hl
     simp only at hy
     simp [Region.wanted,hg,hy]
   rw [if_pos hw]
   have hop':∀ K':Value → Mem → Option R,oper C o.op e' (M i) K' = K' (V i) (M (i + 1)):=fun K' => by
    rw [oper_env (opnd_reads reads)];exact hop K'
   cases hb:effB o.op with
   | true =>
    have hje:=hji hb
    rw [hje] at h2
    refine oper_wpIn (r:=r0) (K:=fun v m => if v = V i ∧ m = M (i + 1) then some r0 else none) hcall h2.st (by rw [hop'];simp) ?_
    intro v m' v' w' ρ2 b1 b2 b3 b4
    replace b1:=ite_some b1
    obtain ⟨rfl,rfl⟩:=b1
    exact hnext _ _ (mid _ _ ρ2 (i + 1) (.inr ⟨hje,rfl⟩) (jeff hb) (h2.put hdo b2 b3 b4) (by rw [hje];exact b4))
   | false =>
    have hMi:=still1 i o ho hb
    have hrun:∀ K':Value → Mem → Option R,oper C o.op e' (M j) K' = K' (V i) (M j):=by
     intro K'
     cases hlb:loadB o.op with
     | false => rw [oper_pure (m:=M i) hb hlb (hpc o (List.mem_of_getElem? ho)),hop']
     | true =>
      have hload:∃ t x,o.op = .load t x:=by
       cases hh:o.op <;> simp [hh,loadB] at hlb
       exact ⟨_,_,rfl⟩
      obtain ⟨t,x,hox⟩:=hload
      rw [hox] at hop' ⊢
      have h6:=hop' (fun _ _ => some r0)
      simp only [oper] at h6
      split at h6
      ·rename_i ad hx
       have hld:∀ K':Value → Option R,ldT C.T t (M i) ad K' = K' (V i):=fun K' => by
        have:=hop' fun v _ => K' v
        simpa only [oper,hx] using this
       simp only [oper,hx]
       have hmem:⟨i,t,ad,V i⟩ ∈ ls':=(hstep i o ho).2.2 t x ad hox hruns (by rw [← opnd_reads reads x (by rw [hox];simp [Op.operands])];exact hx)
       have hcan:∃ j0,j0 ≤ j ∧ canB ops.toList j0 = true ∧ ∀ k ok,ops.toList[k]? = some ok → j0 ≤ k → k < j → effB ok.op = false:=by
        clear hA h2 hflo hji jeff jstill mid
        induction j with
        | zero => exact ⟨0,Nat.le_refl _,rfl,fun k ok _ _ hk => by omega⟩
        | succ j ih =>
         obtain ⟨oj,hoj⟩:=getop j (by omega)
         cases hbj:effB oj.op with
         | true => exact ⟨j + 1,Nat.le_refl _,by simp only [canB,hoj,hbj],fun k ok _ _ hk => by omega⟩
         | false =>
          obtain ⟨j0,a1,a2,a3⟩:=ih (by omega)
          refine ⟨j0,by omega,a2,fun k ok hk b1 b2 => ?_⟩
          rcases Nat.lt_or_ge k j with hkj | hkj
          ·exact a3 k ok hk b1 hkj
          ·have:k = j:=by omega
           subst this;rw [hoj] at hk;simp only [Option.some.injEq] at hk;subst hk;exact hbj
       obtain ⟨j0,c1,c2,c3⟩:=hcan
       have hMj0:M j0 = M j:=still j hj j0 c1 c3
       rw [← hMj0]
       cases hap:apartB ops.toList i j0 with
       | true =>
        refine hchk _ hmem (M j0) ?_ _
        unfold memsOf
        rw [List.mem_filterMap]
        refine ⟨j0,by simp;omega,?_⟩
        have hmay:mayB ops.toList cs i j0 = true:=by
         refine allI_mk fun k ok hk => ?_
         rw [Nat.zero_add]
         cases hbk:effB ok.op with
         | false => rfl
         | true =>
          have h7:=fun hn => hA.eff k ok hk hbk hn
          simp only [Bool.not_true,Bool.false_or,Bool.and_eq_true,Bool.or_eq_true,Bool.not_eq_true']
          constructor
          ·by_cases hk1:k ∈ cs.getD i []
           ·right
            rw [ordB_iff]
            have h8:k < j:=by
             by_cases hfk:fl k
             ·exact hflo k hfk (.inl hk1)
             ·exact (h7 hfk).1 (hclo k hk1)
            apply Classical.byContradiction
            intro h9
            have:=c3 k ok hk (by omega) h8
            rw [hbk] at this;cases this
           ·left
            cases hh:hasN (cs.getD i []) k with
            | false => rfl
            | true => exact absurd (hasN_iff.1 hh) hk1
          ·by_cases hk1:i ∈ cs.getD k []
           ·right
            rw [Nat.ble_eq]
            have h8:¬ Has listed k:=fun hl => hno (clo_has hf hm.closed k ok hk (hm.closed k ok hk hl) i hk1)
            by_cases hfk:fl k
            ·exfalso
             obtain ⟨ok',_,_,z1,_,_,_,z5⟩:=hf.flo k hfk
             rw [hk] at z1;cases z1
             rcases hf.clo k ok hk i hk1 with z | ⟨_,z,_⟩ <;> rw [z5] at z <;> cases z
            ·rw [h7 hfk] at h8;omega
           ·left
            cases hh:hasN (cs.getD k []) i with
            | false => rfl
            | true => exact absurd (hasN_iff.1 hh) hk1
        rw [hmay,c2,hap]
        simp only [Bool.and_self,cond_true]
        rw [List.getElem?_map,List.getElem?_range (by omega)]
        rfl
       | false =>
        have hno':∀ k ok,ops.toList[k]? = some ok → effB ok.op = true → ¬ ((i ≤ k ∧ k < j0) ∨ (j0 ≤ k ∧ k < i)):=by
         unfold apartB at hap
         rw [Bool.not_eq_false'] at hap
         intro k ok hk hbk hh
         have h9:=allI_spec hap k ok hk
         rw [Nat.zero_add,hbk] at h9
         simp only [Bool.not_true,Bool.false_or,Bool.not_eq_true',Bool.or_eq_false_iff,Bool.and_eq_false_iff] at h9
         rcases hh with ⟨d1,d2⟩ | ⟨d1,d2⟩
         ·rcases h9.1 with h10 | h10
          ·rw [Nat.ble_eq_true_of_le d1] at h10;cases h10
          ·rw [ordB_iff.2 d2] at h10;cases h10
         ·rcases h9.2 with h10 | h10
          ·rw [Nat.ble_eq_true_of_le d1] at h10;cases h10
          ·rw [ordB_iff.2 d2] at h10;cases h10
        have:M j0 = M i:=by
         rcases Nat.le_total j0 i with hle | hle
         ·exact still i (by omega) j0 hle fun k ok hk d1 d2 => by
           cases hbk:effB ok.op with
           | false => rfl
           | true => exact absurd (.inr ⟨d1,d2⟩) (hno' k ok hk hbk)
         ·exact (still j0 (by omega) i hle fun k ok hk d1 d2 => by
           cases hbk:effB ok.op with
           | false => rfl
           | true => exact absurd (.inl ⟨d1,d2⟩) (hno' k ok hk hbk)).symm
        rw [this,hld]
      ·cases h6
    refine oper_wpIn (r:=r0) (K:=fun v m => if v = V i ∧ m = M j then some r0 else none) hcall h2.st (by rw [hrun];simp) ?_
    intro v m' v' w' ρ2 b1 b2 b3 b4
    replace b1:=ite_some b1
    obtain ⟨rfl,rfl⟩:=b1
    exact hnext _ _ (mid _ _ ρ2 j (.inl rfl) (jstill hb) (h2.put hdo b2 b3 b4) b4)
  ·have hw:Region.wanted o (yielded ops a.tmps) = false:=by
    obtain ⟨g,want,s,hg,hs,hl⟩:=hskips
    rcases hl with ⟨t,hl,hne⟩ | ⟨cs',hl⟩
    ·rw [← reads s (slot_reads hg hs)] at hl
     have hy:=yielded_of h2 hs hl
     simp only at hy
     simp [Region.wanted,hg,hy,hne]
    ·rw [← reads s (slot_reads hg hs)] at hl
     have hy:=yielded_of h2 hs hl
     simp [Region.wanted,hg,hy]
   rw [if_neg (by rw [hw];simp)]
   refine ⟨fun _ _ => trivial,hnext _ _ ?_⟩
   have hput:Fr P C.T nt B ρ' (putE e' o.dst (V i)) (M j) (a.put o.dst undef) w:=h2.put hdo (by rw [hv];exact .tuple [] [] rfl (by simp)) h2.st.mem (Evo.refl _ _ _)
   cases hb:effB o.op with
   | true =>
    have hje:=hji hb
    have hev:Evo ρ' (M j) w ρ' (M (i + 1)) w:=by rw [hm',hje];exact Evo.refl _ _ _
    rw [hje,← hm'] at hput
    exact mid _ _ ρ' (i + 1) (.inr ⟨hje,rfl⟩) (jeff hb) hput hev
   | false => exact mid _ _ ρ' j (.inl rfl) (jstill hb) hput (Evo.refl _ _ _)
 intro fuel
 induction fuel with
 | zero =>
  intro listed a w hm hc
  have hall:∀ k,k < ops.size → Has listed k:=by
   intro k hk
   have h0:=List.countP_eq_zero.1 (Nat.le_zero.1 hc) k (List.mem_range.2 hk)
   simpa [Has] using h0
  refine ⟨?_,fin listed a w hm hall⟩
  refine List.eq_nil_iff_forall_not_mem.2 fun k hk => ?_
  obtain ⟨hun,o,ho,_⟩:=mem_ready.1 hk
  obtain ⟨hsz,hno⟩:=not_has hun
  exact hno (hall k (by rw [← hm.size];exact hsz))
 | succ fuel ih =>
  intro listed a w hm hc
  refine ⟨fun h0 => fin listed a w hm (allof listed a w hm h0),fun i hi => ?_⟩
  refine one listed a w i hm hi _ fun a' w' hm' => ih _ a' w' hm' ?_
  obtain ⟨hun,o,ho,_⟩:=mem_ready.1 hi
  obtain ⟨hsz,hno⟩:=not_has hun
  have:(List.range ops.size).countP (fun k => !((listed.setIfInBounds i true).getD k false)) < (List.range ops.size).countP (fun k => !(listed.getD k false)):=by
   refine countP_lt (i:=i) (fun k hk hh => ?_) (List.mem_range.2 (by rw [← hm.size];exact hsz)) ?_ ?_
   ·cases h9:listed.getD k false with
    | false => rfl
    | true =>
     have:=(has_set (k:=k) hsz).2 (.inr h9)
     unfold Has at this
     rw [this] at hh;cases hh
   ·unfold Has at hno
    cases h9:listed.getD i false with
    | false => rfl
    | true => exact absurd h9 hno
   ·have:=(has_set (k:=i) hsz).2 (.inl rfl)
    unfold Has at this
    rw [this];rfl
  omega
end
end
end Go.Mx
set_option linter.unusedVariables false
set_option linter.unusedSimpArgs false
namespace Go.Mx
section
variable {P:Program} {R:Type} {C:Ctx R} {r:R}
theorem mk_run {e:Env} {m:Mem} {K:Value → Mem → Option R} {o:Oper} {t:TypeId} {n c:Int} (hT:TOk P C.T) (hop:o.op = .makeSlice t (.const (.int .i64 n)) (.const (.int .i64 c))) (h:oper C o.op e m K = some r) :
 ∃ (real:List Value) (el:TypeId),(∀ v ∈ real,plainV v = true) ∧ n.toNat ≤ c.toNat ∧ K (.slice (some ⟨m.length,0,none⟩) n.toNat c.toNat) (m ++ [.live real]) = some r ∧
  ∀ (a:Act) (w:World),(execOp a.eval o).run P w = .ok (.value (.slice (some ⟨w.heap.size,0,none⟩) n.toNat c.toNat)) { w with heap:=w.heap.push (.cells ⟨real⟩ el) }:=by
 rw [hop] at h
 simp only [oper] at h
 split at h
 ·rename_i el n' c' hd hl hc
  cases hl;cases hc
  have ht:=hT t (by rw [hd];simp)
  have hdd:=ht.desc
  rw [hd] at hdd
  have hte:=hT el hdd.2
  obtain ⟨i,hi1,hi2,hi3,z,hi4,hi5⟩:=hte.info
  cases hb:(decide (0 ≤ n) && decide (n ≤ c) && decide (c * (C.T el).bytes ≤ most) && decide (c ≤ most)) with
  | false => rw [hb] at h;simp at h
  | true =>
   rw [hb] at h
   simp only [cond_true] at h
   simp only [Bool.and_eq_true,decide_eq_true_eq] at hb
   obtain ⟨⟨⟨h0,h1⟩,h2⟩,h3⟩:=hb
   have hmo:((most:Nat):Int) = 140737488355328:=rfl
   rw [hmo] at h2 h3
   have hzs:z.cells.size = i.size:=by
    rw [hi2,← hte.zlen,← hi5];simp
   have hrow:(madeCells z.cells (c.toNat * i.size)).toList = repl c.toNat (C.T el).zero:=by
    rw [← hzs,← hi5];exact repl_range _ _
   refine ⟨_,el,repl_plain (n:=c.toNat) hte.plain,by omega,h,fun a w => ?_⟩
   have key:=run_make (P:=P) w t el i z hdd.1 hi1 hi4 .i64 .i64 n c h0 h1 (by rw [hi3,Int.mul_comm];omega) (by omega)
   rw [← hrow]
   simp [execOp,hop,Act.eval,key]
 ·simp at h
section
variable {ops:Array Oper} {cs:List (List Nat)} {nt:Nat} {B:Nat → Prop} {ro:Option Nat} {Q:Exit → Act → World → Prop}
structure Inv3 (a0:Act) (w0:World) (N d0 d1 d2:Nat) (v0:Value) (n1 c1 n2 c2:Nat) (r1 r2:List Value) (l1 l2:TypeId) (β:Nat → Nat) (listed:Array Bool) (a:Act) (w:World):Prop where
 size:listed.size = N
 low:∀ k,Has listed k → k < 3
 hsz:w0.heap.size ≤ w.heap.size
 old:∀ b,b < w0.heap.size → w.heap[b]? = w0.heap[b]?
 tape:w.tape = w0.tape
 os:w.os = w0.os
 out:w.output = w0.output
 b1:Has listed 1 → w0.heap.size ≤ β 1 ∧ w.heap[β 1]? = some (.cells ⟨r1⟩ l1 (0,0))
 b2:Has listed 2 → w0.heap.size ≤ β 2 ∧ w.heap[β 2]? = some (.cells ⟨r2⟩ l2 (0,0))
 ne:Has listed 1 → Has listed 2 → β 1 ≠ β 2
 defers:a.defers = a0.defers
 tsz:a.tmps.size = a0.tmps.size
 keep:∀ t,(t = d0 → ¬ Has listed 0) → (t = d1 → ¬ Has listed 1) → (t = d2 → ¬ Has listed 2) → a.tmps.getD t undef = a0.tmps.getD t undef
 t0:Has listed 0 → a.tmps.getD d0 undef = v0
 t1:Has listed 1 → a.tmps.getD d1 undef = .slice (some ⟨β 1,0,none⟩) n1 c1
 t2:Has listed 2 → a.tmps.getD d2 undef = .slice (some ⟨β 2,0,none⟩) n2 c2
theorem two_start (hclo:∀ i o,ops.toList[i]? = some o → 3 ≤ i → ∀ listed:Array Bool,(∀ k ∈ preOf o,Has listed k) → (∀ k,Has listed k → k < 3) → Has listed 0 ∧ Has listed 1 ∧ Has listed 2) {o0 o1 o2:Oper}
 (h0:ops.toList[0]? = some o0) (h1:ops.toList[1]? = some o1) (h2:ops.toList[2]? = some o2) (g0:o0.guard = none) (g1:o1.guard = none) (g2:o2.guard = none) (p0:preOf o0 = []) (p1:preOf o1 = []) (p2:preOf o2 = [])
 {a0:Act} {w0:World} {d0 d1 d2 t0:Nat} (hd0:o0.dst = some d0) (hd1:o1.dst = some d1) (hd2:o2.dst = some d2) (lt0:d0 < a0.tmps.size) (lt1:d1 < a0.tmps.size) (lt2:d2 < a0.tmps.size)
 (n01:d0 ≠ d1) (n02:d0 ≠ d2) (n12:d1 ≠ d2) (x1:t0 ≠ d1) (x2:t0 ≠ d2) (hmv:o0.op = .move (.tmp t0)) {n1 c1 n2 c2:Nat} {r1 r2:List Value} {l1 l2:TypeId} (nd1:∀ c,o1.op ≠ .defer c) (nd2:∀ c,o2.op ≠ .defer c)
 (m1:∀ (a:Act) (w:World),(execOp a.eval o1).run P w = .ok (.value (.slice (some ⟨w.heap.size,0,none⟩) n1 c1)) { w with heap:=w.heap.push (.cells ⟨r1⟩ l1) })
 (m2:∀ (a:Act) (w:World),(execOp a.eval o2).run P w = .ok (.value (.slice (some ⟨w.heap.size,0,none⟩) n2 c2)) { w with heap:=w.heap.push (.cells ⟨r2⟩ l2) })
 (hall:∀ fuel β listed a w,Inv3 a0 w0 ops.size d0 d1 d2 (a0.tmps.getD t0 undef) n1 c1 n2 c2 r1 r2 l1 l2 β listed a w → Has listed 0 → Has listed 1 → Has listed 2 → (List.range ops.size).countP (fun k => !(listed.getD k false)) ≤ fuel →
   wpAnyIn (fenceR ro) 0 P .any ops Q fuel listed a w) :
 ∀ fuel β listed a w,Inv3 a0 w0 ops.size d0 d1 d2 (a0.tmps.getD t0 undef) n1 c1 n2 c2 r1 r2 l1 l2 β listed a w → (List.range ops.size).countP (fun k => !(listed.getD k false)) ≤ fuel → wpAnyIn (fenceR ro) 0 P .any ops Q fuel listed a w:=by
 have hlen:ops.toList.length = ops.size:=by simp
 have hN:3 ≤ ops.size:=by have:=(List.getElem?_eq_some_iff.1 h2).1;omega
 intro fuel
 induction fuel with
 | zero =>
  intro β listed a w hI hc
  have hl:∀ k,k < ops.size → Has listed k:=by
   intro k hk
   have h0:=List.countP_eq_zero.1 (Nat.le_zero.1 hc) k (List.mem_range.2 hk)
   simpa [Has] using h0
  exact hall 0 β listed a w hI (hl 0 (by omega)) (hl 1 (by omega)) (hl 2 (by omega)) hc
 | succ fuel ih =>
  intro β listed a w hI hc
  by_cases hxx:Has listed 0 ∧ Has listed 1 ∧ Has listed 2
  ·exact hall _ β listed a w hI hxx.1 hxx.2.1 hxx.2.2 hc
  have hmem:∀ k,k < 3 → ¬ Has listed k → k ∈ Region.ready .any ops listed:=by
   intro k hk hno
   have:∃ o,ops[k]? = some o ∧ preOf o = []:=by
    match k,hk with
    | 0,_ => exact ⟨o0,by rw [← Array.getElem?_toList];exact h0,p0⟩
    | 1,_ => exact ⟨o1,by rw [← Array.getElem?_toList];exact h1,p1⟩
    | 2,_ => exact ⟨o2,by rw [← Array.getElem?_toList];exact h2,p2⟩
   obtain ⟨o,ho,hp⟩:=this
   refine mem_ready.2 ⟨not_has' (by rw [hI.size];omega) hno,o,ho,fun ed hed hb => ?_⟩
   have:ed.on ∈ preOf o:=List.mem_filterMap.2 ⟨ed,Array.mem_toList_iff.2 hed,by simp [hb]⟩
   rw [hp] at this;cases this
  constructor
  ·intro hr
   exfalso
   apply hxx
   have all:∀ k,k < 3 → Has listed k:=fun k hk => Classical.byContradiction fun hno => by have:=hmem k hk hno;rw [hr] at this;cases this
   exact ⟨all 0 (by omega),all 1 (by omega),all 2 (by omega)⟩
  intro i hi
  obtain ⟨hun,o,ho',hpre'⟩:=mem_ready.1 hi
  obtain ⟨hisz,hno⟩:=not_has hun
  have ho:ops.toList[i]? = some o:=by rw [Array.getElem?_toList];exact ho'
  have hi3:i < 3:=by
   apply Classical.byContradiction
   intro hge
   refine hxx (hclo i o ho (by omega) listed (fun k hk => ?_) hI.low)
   obtain ⟨ed,hed,hb⟩:=List.mem_filterMap.1 hk
   cases hbb:Region.binds .any ed with
   | false => rw [hbb] at hb;simp at hb
   | true =>
    rw [hbb] at hb;simp only [cond_true,Option.some.injEq] at hb;subst hb
    exact hpre' ed (Array.mem_toList_iff.1 hed) hbb
  have hcount:(List.range ops.size).countP (fun k => !((listed.setIfInBounds i true).getD k false)) ≤ fuel:=by
   have:(List.range ops.size).countP (fun k => !((listed.setIfInBounds i true).getD k false)) < (List.range ops.size).countP (fun k => !(listed.getD k false)):=by
    refine countP_lt (i:=i) (fun k hk hh => ?_) (List.mem_range.2 (by rw [← hI.size];exact hisz)) ?_ ?_
    ·cases h9:listed.getD k false with
     | false => rfl
     | true =>
      have:=(has_set (k:=k) hisz).2 (.inr h9)
      unfold Has at this
      rw [this] at hh;cases hh
    ·unfold Has at hno
     cases h9:listed.getD i false with
     | false => rfl
     | true => exact absurd h9 hno
    ·have:=(has_set (k:=i) hisz).2 (.inl rfl)
     unfold Has at this
     rw [this];rfl
   omega
  unfold wpOpIn
  rw [ho']
  simp only
  match i,hi3 with
  | 0,_ =>
   rw [h0] at ho;cases ho
   rw [if_pos (by simp [Region.wanted,g0])]
   refine ⟨fun _ _ => trivial,?_⟩
   rw [Oper.semAt_eq _ _ _ (by rw [hmv];simp)]
   have hv:a.tmps.getD t0 undef = a0.tmps.getD t0 undef:=hI.keep t0 (fun _ => hno) (fun h => absurd h x1) (fun h => absurd h x2)
   have hex:(execOp a.eval o0).run P w = .ok (.value (a0.tmps.getD t0 undef)) w:=by
    have:a.eval (.tmp t0) = a0.tmps.getD t0 undef:=hv
    generalize a.eval = ev at this
    simp [execOp,hmv,this]
   rw [hex,Oper.uponIn_value,hd0]
   refine ih β _ _ _ ⟨by simp [hI.size],fun k hk => ?_,hI.hsz,hI.old,hI.tape,hI.os,hI.out,fun h => hI.b1 ?_,fun h => hI.b2 ?_,fun h h' => hI.ne ?_ ?_,by rw [put_defers];exact hI.defers,by rw [put_size];exact hI.tsz,?_,?_,?_,?_⟩ hcount
   ·rcases (has_set hisz).1 hk with rfl | h
    ·omega
    ·exact hI.low k h
   ·exact ((has_set hisz).1 h).resolve_left (by omega)
   ·exact ((has_set hisz).1 h).resolve_left (by omega)
   ·exact ((has_set hisz).1 h).resolve_left (by omega)
   ·exact ((has_set hisz).1 h').resolve_left (by omega)
   ·intro t q0 q1 q2
    have:t ≠ d0:=fun h => q0 h ((has_set hisz).2 (.inl rfl))
    rw [put_other this]
    exact hI.keep t (fun h => absurd h this) (fun h h' => q1 h ((has_set hisz).2 (.inr h'))) (fun h h' => q2 h ((has_set hisz).2 (.inr h')))
   ·intro _;exact put_same (by rw [hI.tsz];exact lt0)
   ·intro h;rw [put_other n01.symm];exact hI.t1 (((has_set hisz).1 h).resolve_left (by omega))
   ·intro h;rw [put_other n02.symm];exact hI.t2 (((has_set hisz).1 h).resolve_left (by omega))
  | 1,_ =>
   rw [h1] at ho;cases ho
   rw [if_pos (by simp [Region.wanted,g1])]
   refine ⟨fun _ _ => trivial,?_⟩
   rw [Oper.semAt_eq _ _ _ nd1,m1 a w,Oper.uponIn_value,hd1]
   refine ih (fun k => if k = 1 then w.heap.size else β k) _ _ _ ⟨by simp [hI.size],fun k hk => ?_,by simp;have:=hI.hsz;omega,fun b hb => ?_,hI.tape,hI.os,hI.out,fun h => ⟨hI.hsz,by simp⟩,fun h => ?_,fun h h' => ?_,by rw [put_defers];exact hI.defers,by rw [put_size];exact hI.tsz,?_,?_,?_,?_⟩ hcount
   ·rcases (has_set hisz).1 hk with rfl | h
    ·omega
    ·exact hI.low k h
   ·rw [Array.getElem?_push,if_neg (by have:=hI.hsz;omega)];exact hI.old b hb
   ·obtain ⟨z1,z2⟩:=hI.b2 (((has_set hisz).1 h).resolve_left (by omega))
    refine ⟨z1,?_⟩
    have:=(Array.getElem?_eq_some_iff.1 z2).1
    simp only [show ¬ (2 = 1) by omega,if_false]
    rw [Array.getElem?_push,if_neg (by omega)];exact z2
   ·obtain ⟨z1,z2⟩:=hI.b2 (((has_set hisz).1 h').resolve_left (by omega))
    have:=(Array.getElem?_eq_some_iff.1 z2).1
    simp;omega
   ·intro t q0 q1 q2
    have:t ≠ d1:=fun h => q1 h ((has_set hisz).2 (.inl rfl))
    rw [put_other this]
    exact hI.keep t (fun h h' => q0 h ((has_set hisz).2 (.inr h'))) (fun h => absurd h this) (fun h h' => q2 h ((has_set hisz).2 (.inr h')))
   ·intro h;rw [put_other n01];exact hI.t0 (((has_set hisz).1 h).resolve_left (by omega))
   ·intro _;simp only [if_true];exact put_same (by rw [hI.tsz];exact lt1)
   ·intro h;rw [put_other n12.symm];exact hI.t2 (((has_set hisz).1 h).resolve_left (by omega))
  | 2,_ =>
   rw [h2] at ho;cases ho
   rw [if_pos (by simp [Region.wanted,g2])]
   refine ⟨fun _ _ => trivial,?_⟩
   rw [Oper.semAt_eq _ _ _ nd2,m2 a w,Oper.uponIn_value,hd2]
   refine ih (fun k => if k = 2 then w.heap.size else β k) _ _ _ ⟨by simp [hI.size],fun k hk => ?_,by simp;have:=hI.hsz;omega,fun b hb => ?_,hI.tape,hI.os,hI.out,fun h => ?_,fun h => ⟨hI.hsz,by simp⟩,fun h h' => ?_,by rw [put_defers];exact hI.defers,by rw [put_size];exact hI.tsz,?_,?_,?_,?_⟩ hcount
   ·rcases (has_set hisz).1 hk with rfl | h
    ·omega
    ·exact hI.low k h
   ·rw [Array.getElem?_push,if_neg (by have:=hI.hsz;omega)];exact hI.old b hb
   ·obtain ⟨z1,z2⟩:=hI.b1 (((has_set hisz).1 h).resolve_left (by omega))
    refine ⟨z1,?_⟩
    have:=(Array.getElem?_eq_some_iff.1 z2).1
    simp only [show ¬ (1 = 2) by omega,if_false]
    rw [Array.getElem?_push,if_neg (by omega)];exact z2
   ·obtain ⟨z1,z2⟩:=hI.b1 (((has_set hisz).1 h).resolve_left (by omega))
    have:=(Array.getElem?_eq_some_iff.1 z2).1
    simp;omega
   ·intro t q0 q1 q2
    have:t ≠ d2:=fun h => q2 h ((has_set hisz).2 (.inl rfl))
    rw [put_other this]
    exact hI.keep t (fun h h' => q0 h ((has_set hisz).2 (.inr h'))) (fun h h' => q1 h ((has_set hisz).2 (.inr h'))) (fun h => absurd h this)
   ·intro h;rw [put_other n02];exact hI.t0 (((has_set hisz).1 h).resolve_left (by omega))
   ·intro h;rw [put_other n12];exact hI.t1 (((has_set hisz).1 h).resolve_left (by omega))
   ·intro _;simp only [if_true];exact put_same (by rw [hI.tsz];exact lt2)
end
theorem Mid.plain {ops:Array Oper} {nt:Nat} {B:Nat → Prop} {M:Nat → Mem} {V:Nat → Value} {e0:Env} {ρ0:Rn} {w0:World} {tw:Prop} {listed:Array Bool} {a:Act} {w:World} (hs:listed.size = ops.size) (ht:tw → Has listed 1 ∧ Has listed 2)
 (hc:∀ i o,ops.toList[i]? = some o → Has listed i → ∀ k ∈ preOf o,Has listed k) (ρ':Rn) (e':Env) (j:Nat) (hj:j ≤ ops.size) (heff:∀ k o,ops.toList[k]? = some o → effB o.op = true → (Has listed k ↔ k < j)) (hfr:Fr P C.T nt B ρ' e' (M j) a w) (hev:Evo ρ0 (M 0) w0 ρ' (M j) w)
 (ho:∀ t,(∀ k o,ops.toList[k]? = some o → Has listed k → o.dst ≠ some t) → lk t e' = lk t e0) (hn:∀ k o t,ops.toList[k]? = some o → Has listed k → o.dst = some t → lk t e' = some (V k)):Mid P C ops nt B M V e0 ρ0 w0 tw (fun _ => False) listed a w :=
 ⟨hs,ht,hc,ρ',e',fun _ => 0,j,⟨hj,fun k o h1 h2 _ => heff k o h1 h2,fun _ h => h.elim,hfr,hev,ho,fun k o t h1 h2 h3 _ => hn k o t h1 h2 h3,fun _ _ _ _ _ h => h.elim,fun _ _ h => h.elim⟩⟩
theorem region_draw1 (hmix:P.follows .mixedOrders = true) (hcall:CallOk P C.call) {ops:Array Oper} {nt:Nat} {B:Nat → Prop} {ro:Option Nat} {id:Nat} {Q:Exit → Act → World → Prop} {K:Env → Mem → Option R} {e:Env} {m:Mem} {ρ:Rn} {a:Act} {w:World}
 (hd:∀ o ∈ ops.toList,dok nt o = true) (hf:Fr P C.T nt B ρ e m a w) {fl:Nat → Prop} (hok:Fine ops.toList (cloOf ops.toList []) False fl ∧ ops.toList.all (fun o => pureConv C.T o.op) = true) (h:drawX C ops.toList (cloOf ops.toList []) 0 ops.toList e m [m] [] K = some r)
 (hK:∀ e' m' ρ' a' w',K e' m' = some r → Fr P C.T nt B ρ' e' m' a' w' → Evo ρ m w ρ' m' w' → Q .normal a' w'):(Code.region id ops true).wpIn (fenceR ro) 0 P Q a w:=by
 obtain ⟨E,M,V,eN,ls',h1,h2,h3,h4,h5,h6⟩:=drawX_trace hcall.det _ _ _ _ _ _ h
 simp only [Nat.zero_add] at h2 h3 h4 h6
 obtain ⟨h7,h8⟩:=chkL_spec h6
 subst h2
 have hlen:ops.toList.length = ops.size:=by simp
 rw [hlen] at h4 h7
 refine wpIn_region_any hmix ?_
 refine region_any (B:=B) (tw:=False) (e0:=e) (w0:={ w with drawn:=w.drawn + 1 }) (ρ0:=ρ) (ls':=ls') hcall hok.1 hd (fun o ho => List.all_eq_true.1 hok.2 o ho) h1 h3 ?_ ?_ ⟨r⟩ _ _ _ _ ?_ ?_
 ·intro l hl mm hmm
  refine h8 l hl mm ?_
  have:[M 0] ++ (List.range ops.toList.length).map (fun j => M (j + 1)) = (List.range (ops.size + 1)).map M:=by
   rw [hlen,List.range_succ_eq_map,List.map_cons,List.map_map];rfl
  rw [this];exact hmm
 ·intro e' ρ' a' w' he hfr hev
  exact hK eN (M ops.size) ρ' a' w' h7 (hfr.ext fun t => by rw [h4 t,he t]) ⟨hev.agree,hev.len,hev.size,hev.frame,hev.fresh,hev.named,hev.tape,hev.os,hev.out⟩
 ·have nope:∀ k,¬ Has (Array.replicate ops.size false) k:=by
   intro k hl;unfold Has at hl;simp [Array.getElem?_replicate] at hl;split at hl <;> simp at hl
  exact ⟨by simp,fun h => h.elim,fun i o ho hl => absurd hl (nope i),ρ,e,fun _ => 0,0,⟨Nat.zero_le _,fun k o hk _ _ => ⟨fun hl => absurd hl (nope k),fun h => by omega⟩,fun f _ h => by omega,⟨⟨hf.st.tok,hf.st.env,(hf.st.mem.drawn (w':={ w with drawn:=w.drawn + 1 }) rfl rfl rfl rfl).1⟩,hf.size,hf.defers⟩,Evo.refl _ _ _,fun t _ => rfl,fun k o t hk hl => absurd hl (nope k),fun f _ _ _ _ _ hl => absurd hl (nope f),fun f _ _ _ hl => absurd hl (nope f)⟩⟩
 ·exact Nat.le_trans List.countP_le_length (by simp)
theorem region_draw2 (hmix:P.follows .mixedOrders = true) (hcall:CallOk P C.call) {ops:Array Oper} {nt:Nat} {B:Nat → Prop} {ro:Option Nat} {id:Nat} {Q:Exit → Act → World → Prop} {K:Env → Mem → Option R} {e:Env} {m:Mem} {ρ:Rn} {a:Act} {w:World}
 (hd:∀ o ∈ ops.toList,dok nt o = true) (hf:Fr P C.T nt B ρ e m a w) (hok:(drawOk2 ops.toList (cloOf ops.toList []) = true ∧ ops.toList.all (fun o => pureConv C.T o.op) = true) ∧ twoB ops.toList (cloOf ops.toList []) = true) (h:drawX C ops.toList (cloOf ops.toList []) 0 ops.toList e m [m] [] K = some r)
 (hK:∀ e' m' ρ' a' w',K e' m' = some r → Fr P C.T nt B ρ' e' m' a' w' → Evo ρ m w ρ' m' w' → Q .normal a' w'):(Code.region id ops true).wpIn (fenceR ro) 0 P Q a w:=by
 obtain ⟨⟨hok1,hok2⟩,hok3⟩:=hok
 obtain ⟨E,M,V,eN,ls',h1,h2,h3,h4,h5,h6⟩:=drawX_trace hcall.det _ _ _ _ _ _ h
 simp only [Nat.zero_add] at h2 h3 h4 h6
 obtain ⟨h7,h8⟩:=chkL_spec h6
 subst h2
 have hlen:ops.toList.length = ops.size:=by simp
 rw [hlen] at h4 h7
 refine wpIn_region_any hmix ?_
 have hfine:=drawOk2_fine hok1
 have hA1:∀ l ∈ ls',∀ m ∈ memsOf ops.toList (cloOf ops.toList []) ((List.range (ops.size + 1)).map M) l.i,∀ K':Value → Option R,ldT C.T l.t m l.a K' = K' l.v:=by
  intro l hl mm hmm
  refine h8 l hl mm ?_
  have:[M 0] ++ (List.range ops.toList.length).map (fun j => M (j + 1)) = (List.range (ops.size + 1)).map M:=by
   rw [hlen,List.range_succ_eq_map,List.map_cons,List.map_map];rfl
  rw [this];exact hmm
 have hA2:∀ e' ρ' a' w',(∀ t,lk t e' = lk t (E ops.size)) → Fr P C.T nt B ρ' e' (M ops.size) a' w' → Evo ρ (M 0) { w with drawn:=w.drawn + 1 } ρ' (M ops.size) w' → Q .normal a' w':=by
  intro e' ρ' a' w' he hfr hev
  exact hK eN (M ops.size) ρ' a' w' h7 (hfr.ext fun t => by rw [h4 t,he t]) ⟨hev.agree,hev.len,hev.size,hev.frame,hev.fresh,hev.named,hev.tape,hev.os,hev.out⟩
 have big:=region_any (B:=B) (ro:=ro) (tw:=True) (Q:=Q) (e0:=e) (w0:={ w with drawn:=w.drawn + 1 }) (ρ0:=ρ) (ls':=ls') hcall hfine hd (fun o ho => List.all_eq_true.1 hok2 o ho) h1 h3 hA1 hA2 ⟨r⟩
 classical
 obtain ⟨o0,o1,o2,rest,hl⟩:∃ o0 o1 o2 rest,ops.toList = o0 :: o1 :: o2 :: rest:=by
  unfold twoB at hok3
  split at hok3
  ·exact ⟨_,_,_,_,by assumption⟩
  ·cases hok3
 rw [hl] at hok3
 simp only [twoB,Bool.and_eq_true] at hok3
 obtain ⟨⟨⟨hm0,hm1⟩,hm2⟩,hrest⟩:=hok3
 have i0:ops.toList[0]? = some o0:=by rw [hl];rfl
 have i1:ops.toList[1]? = some o1:=by rw [hl];rfl
 have i2:ops.toList[2]? = some o2:=by rw [hl];rfl
 have mv:∀ {o:Oper},isMv o = true → ∃ t d,o.op = .move (.tmp t) ∧ o.dst = some d ∧ o.guard = none ∧ preOf o = []:=by
  intro o ho
  unfold isMv at ho
  split at ho
  ·rename_i t d e1 e2 e3
   refine ⟨t,d,e1,e2,e3,?_⟩
   cases hp:preOf o with
   | nil => rfl
   | cons x xs => rw [hp] at ho;cases ho
  ·cases ho
 have mk:∀ {o:Oper},isMk o = true → ∃ t n c d,o.op = .makeSlice t (.const (.int .i64 n)) (.const (.int .i64 c)) ∧ o.dst = some d ∧ o.guard = none ∧ preOf o = []:=by
  intro o ho
  unfold isMk at ho
  split at ho
  ·rename_i t n c d e1 e2 e3
   refine ⟨t,n,c,d,e1,e2,e3,?_⟩
   cases hp:preOf o with
   | nil => rfl
   | cons x xs => rw [hp] at ho;cases ho
  ·cases ho
 obtain ⟨t0,d0,q0,hd0,g0,p0⟩:=mv hm0
 obtain ⟨ty1,n1,c1,d1,q1,hd1,g1,p1⟩:=mk hm1
 obtain ⟨ty2,n2,c2,d2,q2,hd2,g2,p2⟩:=mk hm2
 have n01:d0 ≠ d1:=fun e => hfine.dst 0 1 o0 o1 d1 i0 i1 (by omega) hd1 (by rw [hd0,e])
 have n02:d0 ≠ d2:=fun e => hfine.dst 0 2 o0 o2 d2 i0 i2 (by omega) hd2 (by rw [hd0,e])
 have n12:d1 ≠ d2:=fun e => hfine.dst 1 2 o1 o2 d2 i1 i2 (by omega) hd2 (by rw [hd1,e])
 have tin:t0 ∈ readsO ops.toList o0:=by unfold readsO;exact List.mem_append_left _ (List.mem_filterMap.2 ⟨.tmp t0,by rw [q0];simp [Op.operands],rfl⟩)
 have x1:t0 ≠ d1:=fun e => by
  rcases hfine.reads 0 1 o0 o1 d1 i0 i1 (by omega) hd1 (e ▸ tin) with h | h
  ·rw [p0] at h;cases h
  ·rw [p1] at h;cases h
 have x2:t0 ≠ d2:=fun e => by
  rcases hfine.reads 0 2 o0 o2 d2 i0 i2 (by omega) hd2 (e ▸ tin) with h | h
  ·rw [p0] at h;cases h
  ·rw [p2] at h;cases h
 have dlt:∀ {i:Nat} {o:Oper} {d:Nat},ops.toList[i]? = some o → o.dst = some d → d < nt:=fun {i o d} ho hx => by
  have:=hd o (List.mem_of_getElem? ho)
  simpa [dok,hx] using this
 have runs:∀ {i:Nat} {o:Oper},ops.toList[i]? = some o → o.guard = none → ∀ K',oper C o.op (E i) (M i) K' = K' (V i) (M (i + 1)):=by
  intro i o ho hg K'
  rcases (h3 i o ho).1 with ⟨_,h⟩ | ⟨⟨j,want,sl,hh,_⟩,_⟩
  ·exact h K'
  ·rw [hg] at hh;cases hh
 have z0:V 0 = (lk t0 e).getD undef ∧ lk t0 e = some (V 0) ∧ M 1 = M 0:=by
  have:=runs i0 g0 (fun v m => if v = V 0 ∧ m = M 1 then some r else none)
  rw [if_pos ⟨rfl,rfl⟩,q0] at this
  simp only [oper] at this
  split at this
  ·rename_i v hv
   have h9:=ite_some this
   have hv':lk t0 e = some v:=by rw [← h1 t0];exact hv
   exact ⟨by rw [hv'];exact h9.1.symm,by rw [hv',h9.1],h9.2.symm⟩
  ·cases this
 obtain ⟨_,hv0,hM1⟩:=z0
 obtain ⟨r1,l1,rp1,rn1,k1,m1⟩:=mk_run (P:=P) (r:=r) hf.st.tok q1 (by rw [runs i1 g1 (fun v m => if v = V 1 ∧ m = M 2 then some r else none),if_pos ⟨rfl,rfl⟩])
 obtain ⟨r2,l2,rp2,rn2,k2,m2⟩:=mk_run (P:=P) (r:=r) hf.st.tok q2 (by rw [runs i2 g2 (fun v m => if v = V 2 ∧ m = M 3 then some r else none),if_pos ⟨rfl,rfl⟩])
 obtain ⟨hV1,hM2⟩:=ite_some k1
 obtain ⟨hV2,hM3⟩:=ite_some k2
 have hclo:∀ i o,ops.toList[i]? = some o → 3 ≤ i → ∀ listed:Array Bool,(∀ k ∈ preOf o,Has listed k) → (∀ k,Has listed k → k < 3) → Has listed 0 ∧ Has listed 1 ∧ Has listed 2:=by
  intro i o ho hi listed hp hlow
  have hcl:∀ i o,ops.toList[i]? = some o → Has listed i → ∀ k ∈ preOf o,Has listed k:=by
   intro i o ho hl k hk
   have hi3:=hlow i hl
   match i,hi3 with
   | 0,_ => rw [i0] at ho;cases ho;rw [p0] at hk;cases hk
   | 1,_ => rw [i1] at ho;cases ho;rw [p1] at hk;cases hk
   | 2,_ => rw [i2] at ho;cases ho;rw [p2] at hk;cases hk
  have hc:=clo_has hfine hcl i o ho hp
  have hr:=allI_spec hrest (i - 3) o (by rw [hl] at ho;rw [show i = (i - 3) + 3 by omega] at ho;simpa using ho)
  rw [Nat.zero_add,show i - 3 + 3 = i by omega] at hr
  simp only [Bool.and_eq_true,hasN_iff] at hr
  rw [hl] at hc
  exact ⟨hc 0 hr.1.1,hc 1 hr.1.2,hc 2 hr.2⟩
 have hsz:=hf.size
 refine two_start (a0:=a) (w0:={ w with drawn:=w.drawn + 1 }) (t0:=t0) hclo i0 i1 i2 g0 g1 g2 p0 p1 p2 hd0 hd1 hd2 (by rw [hsz];exact dlt i0 hd0) (by rw [hsz];exact dlt i1 hd1) (by rw [hsz];exact dlt i2 hd2) n01 n02 n12 x1 x2 q0
  (by rw [q1];simp) (by rw [q2];simp) m1 m2 ?_ _ (fun _ => 0) _ _ _ ?_ ?_
 ·intro fuel β listed a3 w3 hI f0 f1 f2 hcount
  refine big fuel listed a3 w3 ?_ hcount
  obtain ⟨b1,b1'⟩:=hI.b1 f1
  obtain ⟨b2,b2'⟩:=hI.b2 f2
  have bne:=hI.ne f1 f2
  have hmw:MRep ρ (M 0) w3:=hf.st.mem.later (w':=w3) hI.old hI.hsz
  have nolive:∀ n cs,(M 0)[n]? = some (.live cs) → ρ.blk n < w.heap.size:=fun n cs h => hf.st.mem.blk_lt h
  have noro:∀ n cs,IsRo ρ (M 0) n cs → ρ.blk n < w.heap.size:=fun n cs h => (hf.st.mem.ro n cs h).1
  have hmA:=hmw.name rp1 b1' (fun n cs h => by have:=nolive n cs h;simp only at b1;omega) (fun n cs h => by have:=noro n cs h;simp only at b1;omega)
  have hlenM:(M 0 ++ [MObj.live r1]).length = (M 0).length + 1:=by simp
  have hgetA:∀ {o:MObj} (n:Nat),(M 0 ++ [MObj.live r1])[n]? = some o → (n < (M 0).length ∧ (M 0)[n]? = some o) ∨ (n = (M 0).length ∧ o = .live r1):=by
   intro o n hn
   rw [getElem?_snoc] at hn
   split at hn
   ·rename_i hlt;exact .inl ⟨hlt,hn⟩
   ·split at hn
    ·rename_i h2;simp at hn;exact .inr ⟨h2,hn.symm⟩
    ·simp at hn
  have hag:=Rn.upd_agree ρ (M 0).length (β 1) r1.length
  have hmB:=hmA.name rp2 b2' (fun n cs h => by
   rcases hgetA n h with ⟨hlt,h⟩ | ⟨rfl,h⟩
   ·rw [(hag n hlt).blk];have:=nolive n cs h;simp only at b2;omega
   ·simp [Rn.upd];exact bne) (fun n cs h => by
   obtain ⟨o,ho1,ho2⟩:=h.get
   rcases hgetA n ho1 with ⟨hlt,_⟩ | ⟨_,hx⟩
   ·have h':IsRo ρ (M 0) n cs:=h.back (by simp) (fun n hn => ⟨(hag n hn).blk,(hag n hn).sh⟩) hlt fun o ho hno => by
     rcases hgetA n ho with ⟨_,h⟩ | ⟨_,h⟩
     ·exact h
     ·exact absurd h (hno _)
    rw [(hag n hlt).blk];have:=noro n cs h';simp only at b2;omega
   ·exact absurd hx (ho2 _))
  have hag2:=Rn.upd_agree (ρ.upd (M 0).length (β 1) r1.length) (M 0 ++ [MObj.live r1]).length (β 2) r2.length
  have hM3':M 3 = (M 0 ++ [MObj.live r1]) ++ [MObj.live r2]:=by rw [← hM3,← hM2,hM1]
  have bl1:((ρ.upd (M 0).length (β 1) r1.length).upd (M 0 ++ [MObj.live r1]).length (β 2) r2.length).blk (M 0).length = β 1:=by rw [(hag2 (M 0).length (by omega)).blk];simp [Rn.upd]
  have sh1:((ρ.upd (M 0).length (β 1) r1.length).upd (M 0 ++ [MObj.live r1]).length (β 2) r2.length).sh (M 0).length = 0:=by rw [(hag2 (M 0).length (by omega)).sh];simp [Rn.upd]
  have bl2:((ρ.upd (M 0).length (β 1) r1.length).upd (M 0 ++ [MObj.live r1]).length (β 2) r2.length).blk (M 0 ++ [MObj.live r1]).length = β 2:=by simp [Rn.upd]
  have sh2:((ρ.upd (M 0).length (β 1) r1.length).upd (M 0 ++ [MObj.live r1]).length (β 2) r2.length).sh (M 0 ++ [MObj.live r1]).length = 0:=by simp [Rn.upd]
  have agr:∀ n,n < (M 0).length → ((ρ.upd (M 0).length (β 1) r1.length).upd (M 0 ++ [MObj.live r1]).length (β 2) r2.length).Same ρ n:=fun n hn => by
   have a1:=hag n hn
   have a2:=hag2 n (by omega)
   exact ⟨a2.blk.trans a1.blk,a2.sz.trans a1.sz,a2.sh.trans a1.sh⟩
  have hl3:(M 3).length = (M 0).length + 2:=by rw [hM3'];simp
  have ve:EnvR ((ρ.upd (M 0).length (β 1) r1.length).upd (M 0 ++ [MObj.live r1]).length (β 2) r2.length) (M 3).length ((d2,V 2) :: (d1,V 1) :: (d0,V 0) :: e) a3.tmps:=by
   intro t v ht
   simp only [lk] at ht
   cases e2:Nat.beq d2 t with
   | true =>
    have:=Nat.eq_of_beq_eq_true e2
    subst this
    rw [e2] at ht;cases ht
    refine ⟨by rw [hI.tsz,hsz];exact dlt i2 hd2,?_⟩
    rw [hI.t2 f2,← hV2,← hM2,hM1]
    exact .sl _ _ _ _ _ (by simp only [hl3,hlenM];omega) ⟨.inr (by simp only [toR,bl2,sh2,Nat.zero_add]),rn2,fun _ => rfl,fun z hz => by simp at hz⟩
   | false =>
    rw [e2] at ht;simp only [cond_false] at ht
    cases e1:Nat.beq d1 t with
    | true =>
     have:=Nat.eq_of_beq_eq_true e1
     subst this
     rw [e1] at ht;cases ht
     refine ⟨by rw [hI.tsz,hsz];exact dlt i1 hd1,?_⟩
     rw [hI.t1 f1,← hV1,hM1]
     exact .sl _ _ _ _ _ (by simp only [hl3];omega) ⟨.inr (by simp only [toR,bl1,sh1,Nat.zero_add]),rn1,fun _ => rfl,fun z hz => by simp at hz⟩
    | false =>
     rw [e1] at ht;simp only [cond_false] at ht
     cases e0:Nat.beq d0 t with
     | true =>
      have:=Nat.eq_of_beq_eq_true e0
      subst this
      rw [e0] at ht;cases ht
      refine ⟨by rw [hI.tsz,hsz];exact dlt i0 hd0,?_⟩
      rw [hI.t0 f0]
      exact (hf.st.env t0 _ hv0).2.mono agr (by rw [hl3];omega)
     | false =>
      rw [e0] at ht;simp only [cond_false] at ht
      obtain ⟨w1,w2⟩:=hf.st.env t v ht
      refine ⟨by rw [hI.tsz];exact w1,?_⟩
      rw [hI.keep t (fun h => by rw [h,Nat.beq_refl] at e0;cases e0) (fun h => by rw [h,Nat.beq_refl] at e1;cases e1) (fun h => by rw [h,Nat.beq_refl] at e2;cases e2)]
      exact w2.mono agr (by rw [hl3];omega)
  have hev:Evo ρ (M 0) { w with drawn:=w.drawn + 1 } ((ρ.upd (M 0).length (β 1) r1.length).upd (M 0 ++ [MObj.live r1]).length (β 2) r2.length) (M 3) w3:=by
   refine ⟨agr,by omega,hI.hsz,fun b hb _ => hI.old b hb,?_,?_,hI.tape,hI.os,hI.out⟩
   intro n cs hn
   rw [hM3',getElem?_snoc] at hn
   split at hn
   ·rename_i hlt
    rcases hgetA n hn with ⟨hlt,h⟩ | ⟨rfl,h⟩
    ·exact .inl ⟨n,cs,h,(agr n hlt).blk⟩
    ·rw [bl1];exact .inr b1
   ·split at hn
    ·rename_i h2;subst h2;rw [bl2];exact .inr b2
    ·simp at hn
   ·intro b hb
    rw [hM3'] at hb
    rcases Named.snoc hb with hb | rfl
    ·rcases Named.snoc hb with hb | rfl
     ·exact .inl hb
     ·exact .inr b1
    ·exact .inr b2
  have hN3:3 ≤ ops.size:=by have:=(List.getElem?_eq_some_iff.1 i2).1;omega
  refine Mid.plain hI.size (fun _ => ⟨f1,f2⟩) (fun i o ho hl3' k hk => ?_) (_) ((d2,V 2) :: (d1,V 1) :: (d0,V 0) :: e) 3 hN3 (fun k o hk hb => ⟨fun h => hI.low k h,fun h => ?_⟩)  ⟨⟨hf.st.tok,ve,by rw [hM3'];exact hmB⟩,by rw [hI.tsz];exact hsz,?_⟩ hev (fun t ht => ?_) (fun k o t hk hl3' hdst => ?_)
  ·have:=hI.low i hl3'
   match i,this with
   | 0,_ => rw [i0] at ho;cases ho;rw [p0] at hk;cases hk
   | 1,_ => rw [i1] at ho;cases ho;rw [p1] at hk;cases hk
   | 2,_ => rw [i2] at ho;cases ho;rw [p2] at hk;cases hk
  ·match k,h with
   | 0,_ => exact f0
   | 1,_ => exact f1
   | 2,_ => exact f2
  ·rw [hI.defers]
   obtain ⟨Ds,s1,s2,s3⟩:=hf.defers
   refine ⟨Ds,s1,s2,fun D hD => ⟨(s3 D hD).1,?_⟩⟩
   rw [hI.old D (Array.getElem?_eq_some_iff.1 (s3 D hD).2).1]
   exact (s3 D hD).2
  ·have y0:=ht 0 o0 i0 f0
   have y1:=ht 1 o1 i1 f1
   have y2:=ht 2 o2 i2 f2
   rw [hd0] at y0;rw [hd1] at y1;rw [hd2] at y2
   have no:∀ {d:Nat},some d ≠ some t → Nat.beq d t = false:=fun {d} h => by
    cases hb:Nat.beq d t with
    | false => rfl
    | true => exact absurd (congrArg some (Nat.eq_of_beq_eq_true hb)) h
   simp only [lk,no y0,no y1,no y2,cond_false]
  ·have:=hI.low k hl3'
   have no:∀ {d d':Nat},d ≠ d' → Nat.beq d d' = false:=fun {d d'} h => by
    cases hb:Nat.beq d d' with
    | false => rfl
    | true => exact absurd (Nat.eq_of_beq_eq_true hb) h
   match k,this with
   | 0,_ => rw [i0] at hk;cases hk;rw [hd0] at hdst;cases hdst;simp only [lk,no n02.symm,no n01.symm,cond_false,Nat.beq_refl,cond_true]
   | 1,_ => rw [i1] at hk;cases hk;rw [hd1] at hdst;cases hdst;simp only [lk,no n12.symm,cond_false,Nat.beq_refl,cond_true]
   | 2,_ => rw [i2] at hk;cases hk;rw [hd2] at hdst;cases hdst;simp only [lk,Nat.beq_refl,cond_true]
 ·have nope:∀ k,¬ Has (Array.replicate ops.size false) k:=by
   intro k hl;unfold Has at hl;simp [Array.getElem?_replicate] at hl;split at hl <;> simp at hl
  exact ⟨by simp,fun k h => absurd h (nope k),Nat.le_refl _,fun _ _ => rfl,rfl,rfl,rfl,fun h => absurd h (nope 1),fun h => absurd h (nope 2),fun h => absurd h (nope 1),rfl,rfl,fun _ _ _ _ => rfl,fun h => absurd h (nope 0),fun h => absurd h (nope 1),fun h => absurd h (nope 2)⟩
 ·exact Nat.le_trans List.countP_le_length (by simp)
theorem region_draw (hmix:P.follows .mixedOrders = true) (hcall:CallOk P C.call) {ops:Array Oper} {nt:Nat} {B:Nat → Prop} {ro:Option Nat} {id:Nat} {Q:Exit → Act → World → Prop} {K:Env → Mem → Option R} {e:Env} {m:Mem} {ρ:Rn} {a:Act} {w:World}
 (hd:∀ o ∈ ops.toList,dok nt o = true) (hf:Fr P C.T nt B ρ e m a w) (h:regX C ops.toList e m K = some r)
 (hK:∀ e' m' ρ' a' w',K e' m' = some r → Fr P C.T nt B ρ' e' m' a' w' → Evo ρ m w ρ' m' w' → Q .normal a' w'):(Code.region id ops true).wpIn (fenceR ro) 0 P Q a w:=by
 unfold regX at h
 cases hok:drawOk ops.toList (cloOf ops.toList []) && ops.toList.all (fun o => pureConv C.T o.op) with
 | true =>
  rw [hok] at h
  simp only [cond_true] at h
  simp only [Bool.and_eq_true] at hok
  exact region_draw1 hmix hcall hd hf ⟨drawOk_fine hok.1,hok.2⟩ h hK
 | false =>
  rw [hok] at h
  simp only [cond_false] at h
  cases hok2:drawOk2 ops.toList (cloOf ops.toList []) && ops.toList.all (fun o => pureConv C.T o.op) && twoB ops.toList (cloOf ops.toList []) with
  | true =>
   rw [hok2] at h
   simp only [cond_true] at h
   simp only [Bool.and_eq_true] at hok2
   exact region_draw2 hmix hcall hd hf hok2 h hK
  | false =>
   rw [hok2] at h
   simp only [cond_false] at h
   cases hok3:drawOk3 ops.toList (cloOf ops.toList []) && ops.toList.all (fun o => pureConv C.T o.op) && floB ops.toList (cloOf ops.toList []) with
   | true =>
    rw [hok3] at h
    simp only [cond_true] at h
    simp only [Bool.and_eq_true] at hok3
    exact region_draw1 hmix hcall hd hf ⟨drawOk3_fine hok3.1.1 hok3.2,hok3.1.2⟩ h hK
   | false => rw [hok3] at h;cases h
end
end Go.Mx
set_option linter.unusedVariables false
set_option linter.unusedSimpArgs false
namespace Go.Mx
section
variable {P:Program} {R:Type} {C:Ctx R} {r:R}
def exOf:Nat → Exit
 | 0 => .ret
 | 1 => .normal
 | n + 2 => .exit n
def dokC (nt:Nat):Code → Bool
 | .region _ os _ => os.toList.all (dok nt)
 | .seq a b => dokC nt a && dokC nt b
 | .cond _ a b => dokC nt a && dokC nt b
 | .block _ c => dokC nt c
 | .loop c => dokC nt c
 | .scope c => dokC nt c
 | .rangeFunc _ ps asg bd => dokC nt asg && dokC nt bd && ps.toList.all fun p => decide (p < nt)
 | _ => true
def LoopOk (C:Ctx R) (cur:Nat) (c:Code):Prop:=∃ ls,lk cur C.heads = some ls ∧ ∀ (K:Nat → List Value → Mem → Option R) r,∃ Lp:Nat → List Value → Mem → Option R,
 (∀ vs m,C.loop cur vs m K = some r → ∃ n,Lp n vs m = some r) ∧
 ∀ n vs m,Lp n vs m = some r → ∃ n',n = n' + 1 ∧ exec C cur c (ls.zip vs) m (goOn ls C.outs (Lp n') K) = some r
def Out (P:Program) (T:TT) (nt:Nat) (B:Nat → Prop) (ρ:Rn) (m:Mem) (w:World) (K:KX R) (r:R):Exit → Act → World → Prop:=fun ex a' w' =>
 ∃ x e' m' ρ',ex = exOf x ∧ K x e' m' = some r ∧ Fr P T nt B ρ' e' m' a' w' ∧ Evo ρ m w ρ' m' w'
theorem wp_loop_n {F:Fence} {c:Code} {Q:Exit → Act → World → Prop} (I:Nat → Act → World → Prop)
 (round:∀ n a w,I n a w → c.wpIn F 0 P (Exit.then (fun a' w' => ∃ n',n' < n ∧ I n' a' w') Q) a w) {n:Nat} {a:Act} {w:World} (h0:I n a w):(Code.loop c).wpIn F 0 P Q a w:=by
 intro b k cs hro hb hr
 have key:∀ n a w,I n a w → ∃ e a' w',Q e a' w' ∧ ArrivesIn (Machine.fenced P F) P (lone (b.atR a (.code c :: .inLoop c :: k)) cs w) b k cs e a' w':=by
  intro n
  induction n using Nat.strongRecOn with
  | _ n ih =>
   intro a w hI
   obtain ⟨e,a₁,w₁,hq,harr⟩:=round n a w hI b (.inLoop c :: k) cs hro hb hr
   cases e with
   | normal =>
    obtain ⟨n',hlt,hI₁⟩:=hq
    obtain ⟨e₂,a₂,w₂,hq₂,harr₂⟩:=ih n' hlt a₁ w₁ hI₁
    exact ⟨e₂,a₂,w₂,hq₂,.of_steps (StepsIn.trans harr (.one (fenced_calm hb hr rfl) stepR_inLoop)) harr₂⟩
   | exit id => exact ⟨_,a₁,w₁,hq,.pass (x:=.inLoop c) rfl (fun _ _ => .inl (by simp)) harr⟩
   | goto l => exact ⟨_,a₁,w₁,hq,.pass (x:=.inLoop c) rfl (fun _ _ => .inl (by simp)) harr⟩
   | ret => exact ⟨_,a₁,w₁,hq,.pass (x:=.inLoop c) rfl (fun _ _ => .inl (by simp)) harr⟩
   | panic ch => exact ⟨_,a₁,w₁,hq,.pass (x:=.inLoop c) rfl (fun _ _ => .inl (by simp)) harr⟩
   | outgrown => exact ⟨_,a₁,w₁,hq,.pass (x:=.inLoop c) rfl (fun _ _ => .inl (by simp)) harr⟩
 obtain ⟨e,a',w',hq,harr⟩:=key n a w h0
 exact ⟨e,a',w',hq,.of_steps (.one (fenced_calm hb hr rfl) stepR_loop) harr⟩
theorem stepR_scope {b:Frame} {a:Act} {k:List Item} {cs:List Frame} {w:World} {c:Code}:step P (lone (b.atR a (.code (.scope c) :: k)) cs w) = .next (lone (b.atR a (.code c :: .inScope c :: k)) cs w) :=
 step_lone_go (by simp [stepG,stepG.exec,Frame.atR])
theorem stepR_inScope {b:Frame} {a:Act} {k:List Item} {cs:List Frame} {w:World} {c:Code}:step P (lone (b.atR a (.inScope c :: k)) cs w) = .next (lone (b.atR a k) cs w) :=
 step_lone_go (by simp [stepG,stepG.exec,Frame.atR])
theorem wpIn_scope_straight {F:Fence} {n:Nat} {a:Act} {w:World} {Q:Exit → Act → World → Prop} {c:Code} (h:c.wpIn F n P (Exit.noGoto Q) a w):(Code.scope c).wpIn F n P Q a w:=by
 intro b k cs hro hb hr
 have h0:(lone (b.atR a (.code (.scope c) :: k)) cs w).fenced P F:=fenced_calm hb hr rfl
 obtain ⟨e,a₁,w₁,hq,harr⟩:=h b (.inScope c :: k) cs hro hb hr
 cases e with
 | normal => exact ⟨.normal,a₁,w₁,hq,.head h0 stepR_scope (StepsIn.trans harr (.one (fenced_calm hb hr rfl) stepR_inScope))⟩
 | exit id =>
  have hx:exitTo id (.inScope c :: k) = exitTo id k:=by simp [exitTo]
  exact ⟨.exit id,a₁,w₁,hq,fun k' hk => .head h0 stepR_scope (harr.1 k' (by rw [hx];exact hk)),
   fun hr' hk => let ⟨k₁,h1,h2⟩:=harr.2 hr' (by rw [hx];exact hk);⟨k₁,h1,.head h0 stepR_scope h2⟩⟩
 | goto l => exact hq.elim
 | ret => exact ⟨_,a₁,w₁,hq,.of_steps (.one h0 stepR_scope) harr⟩
 | panic ch => exact ⟨_,a₁,w₁,hq,.of_steps (.one h0 stepR_scope) harr⟩
 | outgrown => exact ⟨_,a₁,w₁,hq,.of_steps (.one h0 stepR_scope) harr⟩
theorem getAll_env {ρ L tmps} {e:Env} (he:EnvR ρ L e tmps):∀ {ls:List Nat} {vs:List Value},getAll e ls = some vs → EnvR ρ L (ls.zip vs) tmps
 | [],vs,h => by intro t v ht;simp [lk] at ht
 | l :: ls,vs,h => by
  simp only [getAll] at h
  split at h
  ·rename_i v vs' h1 h2
   simp at h;subst h
   intro t u ht
   simp only [List.zip_cons_cons,lk] at ht
   cases hb:Nat.beq l t with
   | true =>
    rw [hb] at ht
    simp at ht;subst ht
    have:=Nat.eq_of_beq_eq_true hb
    subst this
    exact he _ _ h1
   | false => rw [hb] at ht;exact getAll_env he h2 t u (by simpa using ht)
  ·simp at h
theorem Fr.zip {T nt B ρ e m a w ls vs} (h:Fr P T nt B ρ e m a w) (hg:getAll e ls = some vs):Fr P T nt B ρ (ls.zip vs) m a w :=
 ⟨⟨h.st.tok,getAll_env h.st.env hg,h.st.mem⟩,h.size,h.defers⟩
def IterOk (P:Program) (f:Nat):Prop:=(∀ args w,(callFunc f args).run P w = .ok (.enter f args) w) ∧ ∀ (l:Nat) (gv:Value) (ca:List Value) (I:Nat → Int → Rn → Mem → World → Prop) (S:World → Prop),
 (∀ n s ρ m W,I n s ρ m W → MRep ρ m W ∧ VR ρ m.length gv (.func (.func f) #[] ⟨ca⟩)) →
 (∀ n s ρ m W ρ' W',I n s ρ m W → MRep ρ' m W' → Evo ρ m W ρ' m W' → I n s ρ' m W') →
 (∀ n s ρ m W,I n s ρ m W → ∃ y,pcs f gv s m = some y ∧ match y with
   | none => S W
   | some (sl,s') => ∀ sl',VR ρ m.length (.slice sl.a sl.len sl.cap) sl' → YieldAt Fence.wide 0 P l #[.int .i64 s,sl'] W fun e W' => (e = .returned (.bool true) ∧ ∃ n' ρ' m',n' < n ∧ I n' s' ρ' m' W') ∨ (e = .returned (.bool false) ∧ S W')) →
 ∀ n ρ m W,I n 0 ρ m W → CallsIn Fence.wide 0 P f (#[.func (.yield l) #[] #[]] ++ ⟨ca⟩) W fun e W' => (∃ v,e = .returned v) ∧ S W'
def RangeOk (P:Program) (C:Ctx R) (cur:Nat) (q:Rng):Prop:=∃ f ls p1 p2,IterOk P f ∧ lk cur C.heads = some ls ∧ q.ps = [p1,p2] ∧ regB q.asg = true ∧ loopsOf cur q.bd = [] ∧ rangesOf cur q.bd = [] ∧
 ∀ (K:Nat → List Value → Mem → Option R) r,∃ Lp:Nat → Int → Value → List Value → Mem → Option R,
  (∀ s gv vs m,C.loop cur (.int .i64 s :: gv :: vs) m K = some r → ∃ n,Lp n s gv vs m = some r) ∧
  ∀ n s gv vs m,Lp n s gv vs m = some r → ∃ n',n = n' + 1 ∧ pcsK f gv s m (K 1 vs m) (fun sl s' => exec C cur (.seq q.asg q.bd) ((p2,.slice sl.a sl.len sl.cap) :: (p1,.int .i64 s) :: ls.zip vs) m fun x e' m' => match x with
   | 1 => Lp n' s' gv vs m'
   | x => K x vs m') = some r
theorem MRep.putObj {ρ m w} (h:MRep ρ m w) {l:Nat} {o:Obj} (hl:w.heap[l]? = some o) (ho:∀ c t f,o ≠ .cells c t f) (hc:∀ a v,w.cell? a = some v → a.block ≠ l) (o':Obj):MRep ρ m (w.putObj l o') where
 live n cs hn:=by
  obtain ⟨real,elem,fr,h1,h2⟩:=h.live n cs hn
  refine ⟨real,elem,fr,?_,h2⟩
  rw [World.putObj_heap_other,h1]
  intro he;rw [he,hl] at h1;exact ho _ _ _ (Option.some.inj h1)
 inj:=h.inj
 ro n cs hn:=by
  obtain ⟨h1,h2,cs',h3,h4⟩:=h.ro n cs hn
  refine ⟨by rw [World.putObj_size];exact h1,h2,cs',h3,fun j v hj => ?_⟩
  have h5:=h4 j v hj
  have h6:=hc _ _ h5
  have e:(w.putObj l o').heap[ρ.blk n]? = w.heap[ρ.blk n]?:=World.putObj_heap_other h6
  unfold World.cell? at h5 ⊢
  simp only [e]
  exact h5
theorem Evo.putObj {ρ m w ρ' m' w'} (h:Evo ρ m w ρ' m' w') {l:Nat} (hl:w.heap.size ≤ l) (o:Obj):Evo ρ m w ρ' m' (w'.putObj l o) where
 agree:=h.agree
 len:=h.len
 size:=by rw [World.putObj_size];exact h.size
 frame b hb hn:=by rw [World.putObj_heap_other (by omega)];exact h.frame b hb hn
 fresh:=h.fresh
 named:=h.named
 tape:=h.tape
 os:=h.os
 out:=h.out
theorem Marks.putObj {B ds w} (h:Marks B ds w) {l:Nat} {o:Obj} (hl:w.heap[l]? = some o) (ho:∀ c,o ≠ .deferred c) (o':Obj):Marks B ds (w.putObj l o'):=by
 obtain ⟨Ds,h1,h2,h3⟩:=h
 refine ⟨Ds,h1,h2,fun D hD => ⟨(h3 D hD).1,?_⟩⟩
 rw [World.putObj_heap_other,(h3 D hD).2]
 intro he
 rw [← he,(h3 D hD).2] at hl
 exact ho _ (Option.some.inj hl).symm
theorem Marks.cons {B ds w D} (h:Marks B ds w) (hne:∀ D',{ target:=.collected D',args:=#[] } ∈ ds → D' ≠ D) (hB:B D) (hD:w.heap[D]? = some (.deferred (some []))):Marks B ([{ target:=.collected D,args:=#[] }] ++ ds) w:=by
 obtain ⟨Ds,h1,h2,h3⟩:=h
 refine ⟨D :: Ds,by rw [h1];rfl,List.nodup_cons.2 ⟨fun hm => ?_,h2⟩,fun D' hD' => ?_⟩
 ·exact hne D (by rw [h1];exact List.mem_map.2 ⟨D,hm,rfl⟩) rfl
 ·rcases List.mem_cons.1 hD' with rfl | hm
  ·exact ⟨hB,hD⟩
  ·exact h3 D' hm
theorem exec_sound (hmix:P.follows .mixedOrders = true) (hcall:CallOk P C.call) {nt:Nat} {B:Nat → Prop}:∀ (c:Code) (ro:Option Nat) (cur:Nat) (e:Env) (m:Mem) (K:KX R) (ρ:Rn) (a:Act) (w:World),dokC nt c = true → (∀ p ∈ loopsOf cur c,LoopOk C p.1 p.2) → (∀ p ∈ rangesOf cur c,ro = none ∧ RangeOk P C p.1 p.2 ∧ ∀ D,w.heap.size ≤ D → B D) → Fr P C.T nt B ρ e m a w →
 exec C cur c e m K = some r → c.wpIn (fenceR ro) 0 P (Out P C.T nt B ρ m w K r) a w
 | .skip,ro,cur,e,m,K,ρ,a,w,hd,hl,hg,hf,h => wpIn_skip ⟨1,e,m,ρ,rfl,h,hf,Evo.refl _ _ _⟩
 | .label _,ro,cur,e,m,K,ρ,a,w,hd,hl,hg,hf,h => wpIn_label ⟨1,e,m,ρ,rfl,h,hf,Evo.refl _ _ _⟩
 | .ret,ro,cur,e,m,K,ρ,a,w,hd,hl,hg,hf,h => wpIn_ret ⟨0,e,m,ρ,rfl,h,hf,Evo.refl _ _ _⟩
 | .exit id,ro,cur,e,m,K,ρ,a,w,hd,hl,hg,hf,h => wpIn_exit ⟨id + 2,e,m,ρ,rfl,h,hf,Evo.refl _ _ _⟩
 | .goto _,ro,cur,e,m,K,ρ,a,w,hd,hl,hg,hf,h => by simp [exec] at h
 | .refuse _,ro,cur,e,m,K,ρ,a,w,hd,hl,hg,hf,h => by simp [exec] at h
 | .rangeFunc g ps asg bd,ro,cur,e,m,K,ρ,a,w,hd,hl,hg,hf,h => by
  obtain ⟨hro,⟨f,ls,p1,p2,hit,hls,hps,hasg,hl0,hr0,hLp⟩,hB⟩:=hg (cur,⟨ps.toList,asg,bd⟩) (by simp [rangesOf])
  subst hro
  simp only at hps hasg hl0 hr0 hLp
  simp only [dokC,Bool.and_eq_true,List.all_eq_true,decide_eq_true_eq] at hd
  obtain ⟨⟨hd1,hd2⟩,hd3⟩:=hd
  obtain ⟨id,os,hasg⟩:∃ id os,asg = .region id os false:=by
   cases asg <;> simp [regB] at hasg
   rename_i id os d
   subst hasg
   exact ⟨id,os,rfl⟩
  have hp1:=hd3 p1 (by rw [hps];simp)
  have hp2:=hd3 p2 (by rw [hps];simp)
  simp only [exec] at h
  split at h
  case h_2 => simp at h
  rename_i ls' gv hls' hgv
  rw [hls] at hls';cases hls'
  split at h
  case h_2 => simp at h
  rename_i vs hvs
  obtain ⟨Lp,hstart,hround⟩:=hLp (fun x vs' m' => K x (ls.zip vs') m') r
  obtain ⟨n,h⟩:=hstart _ _ _ _ h
  have hgr:=opnd_sound hf.st.env hgv
  obtain ⟨ca,ca',hgv',hca⟩:∃ ca ca':List Value,gv = .func (.func f) #[] ⟨ca⟩ ∧ a.eval g = .func (.func f) #[] ⟨ca'⟩:=by
   obtain ⟨_,_,h1⟩:=hround n _ _ _ _ h
   unfold pcsK at h1
   have h2:∃ y,pcs f gv 0 m = some y:=by
    cases hp:pcs f gv 0 m with
    | none => rw [hp] at h1;cases h1
    | some y => exact ⟨y,rfl⟩
   obtain ⟨y,h2⟩:=h2
   unfold pcs at h2
   split at h2
   case h_2 => cases h2
   rename_i h' a1 a2 _q
   have hh:h' = f:=by
    cases hb:Nat.beq h' f with
    | true => exact Nat.eq_of_beq_eq_true hb
    | false => rw [hb] at h2;cases h2
   subst hh
   obtain ⟨fa',ca',e1,e2,e3,_⟩:=hgr.fn_inv
   have:fa' = []:=by cases fa' with | nil => rfl | cons x xs => simp at e2
   subst this
   exact ⟨_,ca',rfl,e1⟩
  subst hgv'
  have hpsa:ps = #[p1,p2]:=by
   rw [← hps]
  subst hpsa
  refine wpIn_rangeFunc ?_
  intro fn hfn
  obtain ⟨rec,hrec⟩:∃ rec:LoopState → Option Code → Loop,rec = fun st pe => { state:=st,pending:=pe,fn,tmps:=a.tmps,params:=#[p1,p2],assign:=asg,body:=bd,defers:=w.heap.size }:=⟨_,rfl⟩
  obtain ⟨W1,hW1⟩:∃ W1,(w.alloc (.deferred (some []))).alloc (.loop (rec .ready none)) = W1:=⟨_,rfl⟩
  have hL1:W1.heap[w.heap.size + 1]? = some (.loop (rec .ready none)):=by
   rw [← hW1];have:=World.alloc_heap_new (w.alloc (.deferred (some []))) (.loop (rec .ready none));rwa [World.size_alloc] at this
  have hK1:W1.heap[w.heap.size]? = some (.deferred (some [])):=by
   rw [← hW1];exact (Go.RowKit.Below.heap_alloc _ _ _ (by simp)).trans (World.alloc_heap_new w _)
  have hold:∀ b,b < w.heap.size → W1.heap[b]? = w.heap[b]?:=fun b hb => by
   rw [← hW1];exact (Go.RowKit.Below.heap_alloc _ _ _ (by simp;omega)).trans (Go.RowKit.Below.heap_alloc _ _ _ hb)
  have hsz1:W1.heap.size = w.heap.size + 2:=by rw [← hW1];simp
  have hm1:MRep ρ m W1:=hf.st.mem.later hold (by omega)
  have hev1:Evo ρ m w ρ m W1:=⟨fun _ _ => ⟨rfl,rfl,rfl⟩,Nat.le_refl _,by omega,fun b hb _ => hold b hb,fun n cs h => .inl ⟨n,cs,h,rfl⟩,fun _ h => .inl h,by rw [← hW1];rfl,by rw [← hW1];rfl,by rw [← hW1];rfl⟩
  have hcell:∀ (W:World) (b:Nat) (o:Obj),W.heap[b]? = some o → o.isCells = false → ∀ ad v,W.cell? ad = some v → ad.block ≠ b:=by
   intro W b o hb ho ad v hv he
   obtain ⟨o2,h1,h2⟩:=cells_of_cell hv
   rw [he,hb] at h1
   cases h1
   rw [ho] at h2;cases h2
  refine ⟨w.heap.size + 1,[{ target:=.collected w.heap.size,args:=#[] }],W1,{ target:=.fn (.func f) ⟨ca'⟩,args:=#[.func (.yield (w.heap.size + 1)) #[] #[]] },W1,f,
   #[.func (.yield (w.heap.size + 1)) #[] #[]] ++ ⟨ca'⟩,W1,?_,?_,fun _ _ => trivial,?_,fun hd => by simp [fenceR,Fence.wide] at hd,?_⟩
  ·rw [← hW1,hrec];exact run_enterLoop_outer _ _ _ _ _
  ·simp only [resolve,hca]
   simp [go_sem]
  ·simp [invoke,go_sem,hit.1]
  obtain ⟨Inv,hInv⟩:∃ Inv:Nat → Int → Rn → Mem → World → Prop,Inv = fun n s ρ1 m1 W => Lp n s (.func (.func f) #[] ⟨ca⟩) vs m1 = some r ∧ MRep ρ1 m1 W ∧ Evo ρ m w ρ1 m1 W ∧ W.heap[w.heap.size + 1]? = some (.loop (rec .ready none)) ∧ W.heap[w.heap.size]? = some (.deferred (some [])):=⟨_,rfl⟩
  obtain ⟨St,hSt⟩:∃ St:World → Prop,St = fun W => ∃ (x:Nat) (ρ1:Rn) (m1:Mem) (st:LoopState) (pe:Option Code),K x (ls.zip vs) m1 = some r ∧ (match pe with | none => x = 1 | some c => (x = 0 ∧ c = .ret) ∨ ∃ id,x = id + 2 ∧ c = .exit id) ∧ MRep ρ1 m1 W ∧ Evo ρ m w ρ1 m1 W ∧ st ≠ .busy ∧ W.heap[w.heap.size + 1]? = some (.loop (rec st pe)) ∧ W.heap[w.heap.size]? = some (.deferred (some [])):=⟨_,rfl⟩
  have hcall':CallsIn Fence.wide 0 P f (#[.func (.yield (w.heap.size + 1)) #[] #[]] ++ ⟨ca'⟩) W1 fun e W' => (∃ v,e = .returned v) ∧ St W':=by
   refine hit.2 (w.heap.size + 1) (.func (.func f) #[] ⟨ca⟩) ca' Inv St ?_ ?_ ?_ n ρ m W1 (by rw [hInv];exact ⟨h,hm1,hev1,hL1,hK1⟩)
   ·intro n s ρ1 m1 W hI
    rw [hInv] at hI
    obtain ⟨_,i2,i3,_⟩:=hI
    refine ⟨i2,?_⟩
    have:=hgr.mono i3.agree i3.len
    rwa [hca] at this
   ·intro n s ρ1 m1 W ρ2 W2 hI hm2 hev2
    rw [hInv] at hI ⊢
    obtain ⟨i1,i2,i3,i4,i5⟩:=hI
    exact ⟨i1,hm2,i3.trans hev2,hev2.keeps i2 i4 (by simp),hev2.keeps i2 i5 (by simp)⟩
   ·intro n s ρ1 m1 W hI
    rw [hInv] at hI
    obtain ⟨i1,i2,i3,i4,i5⟩:=hI
    obtain ⟨n',hn',h1⟩:=hround _ _ _ _ _ i1
    subst hn'
    unfold pcsK at h1
    cases hy:pcs f (.func (.func f) #[] ⟨ca⟩) s m1 with
    | none => rw [hy] at h1;cases h1
    | some y =>
     rw [hy] at h1
     simp only [Option.bind_some] at h1
     refine ⟨y,rfl,?_⟩
     cases y with
     | none =>
      simp only at h1 ⊢
      rw [hSt]
      exact ⟨1,ρ1,m1,.ready,none,h1,rfl,i2,i3,by simp,i4,i5⟩
     | some y =>
      obtain ⟨sl,s'⟩:=y
      simp only at h1 ⊢
      intro sl' hsl'
      have hlt:w.heap.size + 1 < W.heap.size:=(Array.getElem?_eq_some_iff.1 i4).1
      have hy:=run_yield (P:=P) (args:=#[.int .i64 s,sl']) i4 (by rw [hrec];simp)
      rw [hrec] at hy
      refine ⟨fn,_,asg,bd,hy,roundIn_of_wpIn trivial ?_⟩
      simp only [exec,hasg,cond_false] at h1
      subst hasg
      refine wpIn_region_list ?_
      have hfr:Fr P C.T nt B ρ1 ((p2,.slice sl.a sl.len sl.cap) :: (p1,.int .i64 s) :: ls.zip vs) m1 { tmps:=(#[p1,p2].zip #[.int .i64 s,sl']).foldl (fun t x => t.setIfInBounds x.1 x.2) a.tmps,defers:=[] } W:=by
       have e0:EnvR ρ1 m1.length (ls.zip vs) a.tmps:=(getAll_env hf.st.env hvs).mono i3.agree i3.len
       have e1:=e0.put (d:=p1) (by rw [hf.size];exact hp1) (VR.int (ρ:=ρ1) (L:=m1.length) .i64 s)
       have e2:=e1.put (d:=p2) (by rw [Array.size_setIfInBounds,hf.size];exact hp2) hsl'
       refine ⟨⟨hf.st.tok,?_,i2⟩,?_,Marks.nil⟩
       ·simpa using e2
       ·simpa using hf.size
      simp only [dokC,List.all_eq_true] at hd1
      refine opsX_sound (ro:=some (w.heap.size + 1)) hcall os.toList _ m1 ρ1 _ W hd1 hfr h1 ?_
      intro e2 m2 ρ2 a2 W2 k1 k2 k3
      have l2:=k3.keeps i2 i4 (by simp)
      have d2:=k3.keeps i2 i5 (by simp)
      have lt2:w.heap.size + 1 < W2.heap.size:=(Array.getElem?_eq_some_iff.1 l2).1
      refine ⟨_,run_beginRound l2 (by rw [hrec]),?_⟩
      have l3:(W2.putObj (w.heap.size + 1) (.loop { rec .ready none with state:=.busy })).heap[w.heap.size + 1]? = some (.loop { rec .ready none with state:=.busy }):=World.putObj_heap_same lt2
      have d3:(W2.putObj (w.heap.size + 1) (.loop { rec .ready none with state:=.busy })).heap[w.heap.size]? = some (.deferred (some [])):=(World.putObj_heap_other (by omega)).trans d2
      have m3:=k2.st.mem.putObj l2 (by simp) (hcell _ _ _ l2 rfl) (.loop { rec .ready none with state:=.busy })
      have ev3:Evo ρ m w ρ2 m2 (W2.putObj (w.heap.size + 1) (.loop { rec .ready none with state:=.busy })):=(i3.trans k3).putObj (by omega) _
      have f3:Fr P C.T nt B ρ2 e2 m2 a2 (W2.putObj (w.heap.size + 1) (.loop { rec .ready none with state:=.busy })):=⟨⟨k2.st.tok,k2.st.env,m3⟩,k2.size,k2.defers.putObj l2 (by simp) _⟩
      refine wpIn_mono (exec_sound hmix hcall bd (some (w.heap.size + 1)) cur e2 m2 _ ρ2 a2 _ hd2 (by rw [hl0];simp) (by rw [hr0];simp) f3 k1) ?_
      rintro ex a4 W4 ⟨x,e4,m4,ρ4,b1,b2,b3,b4⟩
      have l4:=b4.keeps m3 l3 (by simp)
      have d4:=b4.keeps m3 d3 (by simp)
      have lt4:w.heap.size + 1 < W4.heap.size:=(Array.getElem?_eq_some_iff.1 l4).1
      have fin:∀ (jump:Option Code),(Instr.endRound (w.heap.size + 1) jump).run P W4 = .ok (.bool jump.isNone) (W4.putObj (w.heap.size + 1) (.loop (rec (if jump.isNone then .ready else .done) jump))) ∧
       MRep ρ4 m4 (W4.putObj (w.heap.size + 1) (.loop (rec (if jump.isNone then .ready else .done) jump))) ∧ Evo ρ m w ρ4 m4 (W4.putObj (w.heap.size + 1) (.loop (rec (if jump.isNone then .ready else .done) jump))) ∧
       (W4.putObj (w.heap.size + 1) (.loop (rec (if jump.isNone then .ready else .done) jump))).heap[w.heap.size + 1]? = some (.loop (rec (if jump.isNone then .ready else .done) jump)) ∧
       (W4.putObj (w.heap.size + 1) (.loop (rec (if jump.isNone then .ready else .done) jump))).heap[w.heap.size]? = some (.deferred (some [])):=fun jump => by
       refine ⟨?_,b3.st.mem.putObj l4 (by simp) (hcell _ _ _ l4 rfl) _,(ev3.trans b4).putObj (by omega) _,World.putObj_heap_same lt4,(World.putObj_heap_other (by omega)).trans d4⟩
       have:=run_endRound (P:=P) jump l4
       rw [hrec] at this ⊢
       exact this
      match x,b1,b2 with
      | 1,b1,b2 =>
       subst b1
       obtain ⟨g1,g2,g3,g4,g5⟩:=fin none
       refine ⟨_,_,g1,.inl ⟨rfl,n',ρ4,m4,Nat.lt_succ_self _,?_⟩⟩
       rw [hInv]
       exact ⟨b2,g2,g3,g4,g5⟩
      | 0,b1,b2 =>
       subst b1
       obtain ⟨g1,g2,g3,g4,g5⟩:=fin (some .ret)
       refine ⟨_,_,g1,.inr ⟨rfl,?_⟩⟩
       rw [hSt]
       exact ⟨0,ρ4,m4,.done,some .ret,b2,.inl ⟨rfl,rfl⟩,g2,g3,by simp,g4,g5⟩
      | k + 2,b1,b2 =>
       subst b1
       obtain ⟨g1,g2,g3,g4,g5⟩:=fin (some (.exit k))
       refine ⟨_,_,g1,.inr ⟨rfl,?_⟩⟩
       rw [hSt]
       exact ⟨k + 2,ρ4,m4,.done,some (.exit k),b2,.inr ⟨k,rfl,rfl⟩,g2,g3,by simp,g4,g5⟩
  refine CallsIn.mono hcall' ?_
  rintro en W2 ⟨⟨v,rfl⟩,hs⟩
  rw [hSt] at hs
  obtain ⟨x,ρ1,m1,st,pe,q1,q2,q3,q4,q5,q6,q7⟩:=hs
  have hlt:w.heap.size + 1 < W2.heap.size:=(Array.getElem?_eq_some_iff.1 q6).1
  refine ⟨pe,W2.putObj (w.heap.size + 1) (.loop { rec st pe with state:=.exhausted }),by have:=run_endLoop (P:=P) q6 (by rw [hrec];exact q5);rw [hrec] at this ⊢;exact this,?_⟩
  have m5:=q3.putObj q6 (by simp) (hcell _ _ _ q6 rfl) (.loop { rec st pe with state:=.exhausted })
  have e5:Evo ρ m w ρ1 m1 (W2.putObj (w.heap.size + 1) (.loop { rec st pe with state:=.exhausted })):=q4.putObj (by omega) _
  have d5:(W2.putObj (w.heap.size + 1) (.loop { rec st pe with state:=.exhausted })).heap[w.heap.size]? = some (.deferred (some [])):=(World.putObj_heap_other (by omega)).trans q7
  have f5:Fr P C.T nt B ρ1 (ls.zip vs) m1 { a with defers:=[{ target:=.collected w.heap.size,args:=#[] }] ++ a.defers } (W2.putObj (w.heap.size + 1) (.loop { rec st pe with state:=.exhausted })):=by
   refine ⟨⟨hf.st.tok,(getAll_env hf.st.env hvs).mono q4.agree q4.len,m5⟩,hf.size,?_⟩
   exact ((hf.defers.evo hf.st.mem q4).putObj q6 (by simp) _).cons (fun D hD => by
    obtain ⟨Ds,z1,z2,z3⟩:=hf.defers
    rw [z1] at hD
    obtain ⟨D',z4,z5⟩:=List.mem_map.1 hD
    cases z5
    have:=(Array.getElem?_eq_some_iff.1 (z3 D z4).2).1
    omega) (hB _ (Nat.le_refl _)) d5
  have hout:∀ ex,ex = exOf x → Out P C.T nt B ρ m w K r ex { a with defers:=[{ target:=.collected w.heap.size,args:=#[] }] ++ a.defers } (W2.putObj (w.heap.size + 1) (.loop { rec st pe with state:=.exhausted })):=fun ex he => ⟨x,_,m1,ρ1,he,q1,f5,e5⟩
  cases pe with
  | none => simp only at q2 ⊢;subst q2;exact hout _ rfl
  | some c =>
   simp only at q2 ⊢
   rcases q2 with ⟨rfl,rfl⟩ | ⟨id,rfl,rfl⟩
   ·exact wpIn_ret (hout _ rfl)
   ·exact wpIn_exit (hout _ rfl)
 | .region id os draw,ro,cur,e,m,K,ρ,a,w,hd,hl,hg,hf,h => by
  cases draw with
  | true =>
   simp only [exec,cond_true] at h
   simp only [dokC,List.all_eq_true] at hd
   exact region_draw hmix hcall hd hf h fun e' m' ρ' a' w' h1 h2 h3 => ⟨1,e',m',ρ',rfl,h1,h2,h3⟩
  | false =>
   simp only [exec,cond_false] at h
   refine wpIn_region_list ?_
   simp only [dokC,List.all_eq_true] at hd
   exact opsX_sound hcall os.toList e m ρ a w hd hf h fun e' m' ρ' a' w' h1 h2 h3 => ⟨1,e',m',ρ',rfl,h1,h2,h3⟩
 | .scope c,ro,cur,e,m,K,ρ,a,w,hd,hl,hg,hf,h => by
  refine wpIn_scope_straight ?_
  refine wpIn_mono (exec_sound hmix hcall c ro cur e m K ρ a w hd hl hg hf h) ?_
  intro ex a' w' hq
  cases ex <;> first | exact hq | (obtain ⟨x,_,_,_,h1,_⟩:=hq;exfalso;match x,h1 with | 0,h1 => simp [exOf] at h1 | 1,h1 => simp [exOf] at h1 | n + 2,h1 => simp [exOf] at h1)
 | .seq c d,ro,cur,e,m,K,ρ,a,w,hd,hl,hg,hf,h => by
  simp only [exec] at h
  simp only [dokC,Bool.and_eq_true] at hd
  refine wpIn_seq ?_
  refine wpIn_mono (exec_sound hmix hcall c ro cur e m _ ρ a w hd.1 (fun p hp => hl p (by simp [loopsOf,hp])) (fun p hp => hg p (by simp [rangesOf,hp])) hf h) ?_
  rintro ex a' w' ⟨x,e',m',ρ',h1,h2,h3,h4⟩
  match x,h1,h2 with
  | 1,h1,h2 =>
   subst h1
   refine wpIn_mono (exec_sound hmix hcall d ro cur e' m' K ρ' a' w' hd.2 (fun p hp => hl p (by simp [loopsOf,hp])) (fun p hp => let ⟨g1,g2,g3⟩:=hg p (by simp [rangesOf,hp]);⟨g1,g2,fun D hD => g3 D (Nat.le_trans h4.size hD)⟩) h3 h2) ?_
   rintro ex2 a2 w2 ⟨x2,e2,m2,ρ2,b1,b2,b3,b4⟩
   exact ⟨x2,e2,m2,ρ2,b1,b2,b3,h4.trans b4⟩
  | 0,h1,h2 => subst h1;exact ⟨0,e',m',ρ',rfl,h2,h3,h4⟩
  | n + 2,h1,h2 => subst h1;exact ⟨n + 2,e',m',ρ',rfl,h2,h3,h4⟩
 | .cond x c d,ro,cur,e,m,K,ρ,a,w,hd,hl,hg,hf,h => by
  simp only [exec] at h
  simp only [dokC,Bool.and_eq_true] at hd
  split at h
  ·rename_i t ht
   have hx:=(opnd_sound hf.st.env ht).bool_inv
   refine wpIn_cond hx ?_
   cases t with
   | true => exact exec_sound hmix hcall c ro cur e m K ρ a w hd.1 (fun p hp => hl p (by simp [loopsOf,hp])) (fun p hp => hg p (by simp [rangesOf,hp])) hf h
   | false => exact exec_sound hmix hcall d ro cur e m K ρ a w hd.2 (fun p hp => hl p (by simp [loopsOf,hp])) (fun p hp => hg p (by simp [rangesOf,hp])) hf h
  ·simp at h
 | .block id c,ro,cur,e,m,K,ρ,a,w,hd,hl,hg,hf,h => by
  simp only [exec] at h
  refine wpIn_block ?_
  refine wpIn_mono (exec_sound hmix hcall c ro id e m _ ρ a w hd hl hg hf h) ?_
  rintro ex a' w' ⟨x,e',m',ρ',h1,h2,h3,h4⟩
  match x,h1,h2 with
  | 0,h1,h2 => subst h1;exact ⟨0,e',m',ρ',rfl,h2,h3,h4⟩
  | 1,h1,h2 => subst h1;exact ⟨1,e',m',ρ',rfl,h2,h3,h4⟩
  | n + 2,h1,h2 =>
   subst h1
   simp only [exOf,Exit.inBlock]
   simp only at h2
   cases hb:Nat.beq (n + 2) (id + 2) with
   | true =>
    have:n = id:=by have:=Nat.eq_of_beq_eq_true hb;omega
    subst this
    rw [hb] at h2
    simp only [if_true]
    exact ⟨1,e',m',ρ',rfl,h2,h3,h4⟩
   | false =>
    have:n ≠ id:=by
     intro h;subst h
     rw [show Nat.beq (n + 2) (n + 2) = true from Nat.beq_refl _] at hb;simp at hb
    rw [hb] at h2
    rw [if_neg this]
    exact ⟨n + 2,e',m',ρ',rfl,h2,h3,h4⟩
 | .loop c,ro,cur,e,m,K,ρ,a,w,hd,hl,hg,hf,h => by
  simp only [exec] at h
  split at h
  ·rename_i ls hls
   split at h
   ·rename_i vs hvs
    obtain ⟨ls',h1,h2⟩:=hl (cur,c) (by simp [loopsOf])
    simp only [hls,Option.some.injEq] at h1
    subst h1
    obtain ⟨Lp,hstart,hround⟩:=h2 (fun x vs' m' => match lk x C.outs with | some lx => K x (lx.zip vs') m' | none => none) r
    obtain ⟨n,h2⟩:=hstart _ _ h
    refine wp_loop_n (fun n a' w' => ∃ vs' m' ρ',Lp n vs' m' = some r ∧ Fr P C.T nt B ρ' (ls.zip vs') m' a' w' ∧ Evo ρ m w ρ' m' w') ?_ (n:=n) ⟨vs,m,ρ,h2,hf.zip hvs,Evo.refl _ _ _⟩
    rintro n a' w' ⟨vs',m',ρ',h3,h4,h5⟩
    obtain ⟨n',hn',h6⟩:=hround n vs' m' h3
    subst hn'
    refine wpIn_mono (exec_sound hmix hcall c ro cur _ m' _ ρ' a' w' hd (fun p hp => hl p (by simp [loopsOf,hp])) (fun p hp => let ⟨g1,g2,g3⟩:=hg p (by simp [rangesOf,hp]);⟨g1,g2,fun D hD => g3 D (Nat.le_trans h5.size hD)⟩) h4 h6) ?_
    rintro ex a2 w2 ⟨x,e2,m2,ρ2,b1,b2,b3,b4⟩
    have hout:∀ (hx:x ≠ 1) (b2:(match lk x C.outs with | some lx => (match getAll e2 lx with | some vs' => (match lk x C.outs with | some lx => K x (lx.zip vs') m2 | none => none) | none => none) | none => none) = some r),Out P C.T nt B ρ m w K r (exOf x) a2 w2:=by
     intro hx b2
     split at b2
     ·rename_i lx hlx
      split at b2
      ·rename_i vs2 hvs2
       exact ⟨x,_,m2,ρ2,rfl,b2,b3.zip hvs2,h5.trans b4⟩
      ·simp at b2
     ·simp at b2
    match x,b1,b2,hout with
    | 1,b1,b2,_ =>
     subst b1
     simp only [goOn] at b2
     split at b2
     ·rename_i vs2 hvs2
      exact ⟨n',Nat.lt_succ_self n',vs2,m2,ρ2,b2,b3.zip hvs2,h5.trans b4⟩
     ·simp at b2
    | 0,b1,b2,hout => subst b1;exact hout (by simp) b2
    | k + 2,b1,b2,hout => subst b1;exact hout (by simp) b2
   ·simp at h
  ·simp at h
def resF (tmps:Array Value):ResultVar → Sem Value
 | .tmp t => pure (tmps.getD t undef)
 | .cell a t => do loadVar t (← asAddr (tmps.getD a undef))
theorem resT_sound {T:TT} (hT:TOk P T) {ρ:Rn} {m:Mem} {w:World} {tmps:Array Value} {e:Env} (he:EnvR ρ m.length e tmps) (hm:MRep ρ m w):∀ (rs:List ResultVar) (K:List Value → Option R),resT T e m rs K = some r →
 ∃ vs vs',K vs = some r ∧ vs.length = vs'.length ∧ (∀ (i:Nat) v,vs[i]? = some v → ∃ v',vs'[i]? = some v' ∧ VR ρ m.length v v') ∧
  (rs.mapM (resF tmps)).run P w = .ok vs' w
 | [],K,h => ⟨[],[],h,rfl,by simp,by simp⟩
 | .tmp t :: rs,K,h => by
  simp only [resT] at h
  split at h
  ·rename_i v hv
   obtain ⟨vs,vs',h1,h2,h3,h4⟩:=resT_sound hT he hm rs _ h
   refine ⟨v :: vs,tmps.getD t undef :: vs',h1,by simp [h2],?_,?_⟩
   ·intro i u hi
    cases i with
    | zero => simp at hi;subst hi;exact ⟨_,rfl,(he t _ hv).2⟩
    | succ i => simp at hi;simpa using h3 i u hi
   ·have e1:(resF tmps (.tmp t)).run P w = .ok (tmps.getD t undef) w:=rfl
    rw [List.mapM_cons]
    simp only [Sem.run_bind,Sem.run_pure,Result.andThen_ok,h4,e1]
  ·simp at h
 | .cell ad t :: rs,K,h => by
  simp only [resT] at h
  split at h
  ·rename_i b hb
   obtain ⟨v,v',h5,h6,h7⟩:=ldT_sound hT hm h
   obtain ⟨vs,vs',h1,h2,h3,h4⟩:=resT_sound hT he hm rs _ h5
   have hp:=(he ad _ hb).2.ptr_inv.1
   refine ⟨v :: vs,v' :: vs',h1,by simp [h2],?_,?_⟩
   ·intro i u hi
    cases i with
    | zero => simp at hi;subst hi;exact ⟨_,rfl,h6⟩
    | succ i => simp at hi;simpa using h3 i u hi
   ·have e1:(resF tmps (.cell ad t)).run P w = .ok v' w:=by
     simp only [resF,Sem.run_bind,hp,asAddr,Sem.run_pure,Result.andThen_ok,h7]
    rw [List.mapM_cons]
    simp only [Sem.run_bind,Sem.run_pure,Result.andThen_ok,h4,e1]
  ·simp at h
theorem results_sound {T:TT} (hT:TOk P T) {fn:Func} {ρ:Rn} {m:Mem} {w:World} {tmps:Array Value} {e:Env} (he:EnvR ρ m.length e tmps) (hm:MRep ρ m w) {K:Value → Option R}
 (h:resT T e m fn.results.toList (fun vs => K (oneOf vs)) = some r):∃ v v',K v = some r ∧ VR ρ m.length v v' ∧ (results fn tmps).run P w = .ok v' w:=by
 obtain ⟨vs,vs',h1,h2,h3,h4⟩:=resT_sound hT he hm _ _ h
 have h5:(results fn tmps).run P w = .ok (if h:(⟨vs'⟩:Array Value).size = 1 then (⟨vs'⟩:Array Value)[0] else .tuple ⟨vs'⟩) w:=by
  have e1:results fn tmps = (do
   let vs ← fn.results.mapM (resF tmps)
   pure (if h:vs.size = 1 then vs[0] else .tuple vs)):=rfl
  rw [e1,Array.mapM_eq_mapM_toList]
  simp only [Sem.run_bind,Sem.run_map,h4,Result.andThen_ok,Sem.run_pure]
 refine ⟨_,_,h1,?_,h5⟩
 match vs,vs',h2,h3 with
 | [v],[v'],_,h3 =>
  obtain ⟨u,a1,a2⟩:=h3 0 v rfl
  simp at a1;subst a1
  exact a2
 | [],[],_,h3 => exact .tuple [] [] rfl (by simp)
 | x :: y :: vs,x' :: y' :: vs',h2,h3 =>
  refine .tuple _ _ h2 ?_
  intro i hi
  obtain ⟨u,a1,a2⟩:=h3 i _ (List.getElem?_eq_getElem hi)
  rw [getD_of_get? (List.getElem?_eq_getElem hi),getD_of_get? a1]
  exact a2
theorem paramsE_lk:∀ (vs:List Value) (n t:Nat) (v:Value),lk t (paramsE n vs) = some v → n ≤ t ∧ vs[t - n]? = some v
 | [],n,t,v,h => by simp [paramsE,lk] at h
 | u :: vs,n,t,v,h => by
  simp only [paramsE,lk] at h
  cases hb:Nat.beq n t with
  | true =>
   rw [hb] at h
   have:=Nat.eq_of_beq_eq_true hb
   subst this
   simp at h;subst h
   simp
  | false =>
   rw [hb] at h
   have hne:n ≠ t:=by
    intro h;subst h
    rw [show Nat.beq n n = true from Nat.beq_refl n] at hb;simp at hb
   obtain ⟨h1,h2⟩:=paramsE_lk vs (n + 1) t v (by simpa using h)
   refine ⟨by omega,?_⟩
   rw [show t - n = (t - (n + 1)) + 1 by omega]
   simpa using h2
theorem leaves_marks {fn:Func} {tmps:Array Value} {S:Ending → World → Prop} {ρ ρ':Rn} {m m':Mem} {w:World}
 (hfin:∀ w'',MRep ρ' m' w'' → Evo ρ m w ρ' m' w'' → ∃ v,(results fn tmps).run P w'' = .ok v w'' ∧ S (.returned v) w'') :
 ∀ (Ds:List Nat) (w':World),Ds.Nodup → (∀ D ∈ Ds,w.heap.size ≤ D ∧ w'.heap[D]? = some (.deferred (some []))) → MRep ρ' m' w' → Evo ρ m w ρ' m' w' →
  LeavesInM Fence.wide 0 P fn tmps S (Ds.map fun D => { target:=.collected D,args:=#[] }) .returning w'
 | [],w',_,_,hm,he => hfin w' hm he
 | D :: Ds,w',hn,hd,hm,he => by
  obtain ⟨h1,h2⟩:=hd D (by simp)
  obtain ⟨n1,n2⟩:=List.nodup_cons.1 hn
  refine ⟨by simp,.inl ⟨D,_,rfl,run_takeDeferred h2,leaves_marks hfin Ds _ n2 ?_ (hm.putObj h2 (by simp) ?_ _) (he.putObj h1 _)⟩⟩
  ·intro D' hD'
   obtain ⟨h3,h4⟩:=hd D' (by simp [hD'])
   exact ⟨h3,by rw [World.putObj_heap_other (fun (e:D' = D) => n1 (e ▸ hD'))];exact h4⟩
  ·intro ad v hv e
   obtain ⟨o2,h3,h4⟩:=cells_of_cell hv
   rw [e,h2] at h3
   cases h3
   cases h4
theorem fn_sound {f:FuncId} {fn:Func} {c:Code} {vs:List Value} {m:Mem} {K:Value → Mem → Option R}
 (hT:TOk P C.T) (hmix:P.follows .mixedOrders = true) (hcall:CallOk P C.call) (hfn:P.funcs[f]? = some fn) (hb:fn.body = some c) (hname:(fn.name == "runtime.NumGoroutine") = false) (hd:dokC fn.ntmps c = true) (hargs:Nat.ble vs.length fn.ntmps = true)
 (hl:∀ p ∈ loopsOf 0 c,LoopOk C p.1 p.2) (hg:∀ p ∈ rangesOf 0 c,RangeOk P C p.1 p.2) (h:fnX C fn vs m K = some r):CallP P f vs m fun v m' => K v m' = some r:=by
 refine CallP.of_calls hfn hname (by rw [hb];rfl) ?_
 intro ρ w args hm hlen hvr
 have hle:=Nat.le_of_ble_eq_true hargs
 refine callsIn_wide.1 (callsIn_of_wp_marks (n:=0) hfn hb trivial ?_)
 have hsize:((⟨args⟩:Array Value) ++ Array.replicate (fn.ntmps - (⟨args⟩:Array Value).size) undef).size = fn.ntmps:=by
  simp;omega
 have hfr:Fr P C.T fn.ntmps (fun D => w.heap.size ≤ D) ρ (paramsE 0 vs) m { tmps:=(⟨args⟩:Array Value) ++ Array.replicate (fn.ntmps - (⟨args⟩:Array Value).size) undef,defers:=[] } w:=by
  refine ⟨⟨hT,?_,hm⟩,hsize,Marks.nil⟩
  intro t v ht
  obtain ⟨_,h2⟩:=paramsE_lk vs 0 t v ht
  rw [Nat.sub_zero] at h2
  obtain ⟨v',h3,h4⟩:=hvr t v h2
  have hlt:t < args.length:=by
   rcases Nat.lt_or_ge t args.length with h | h
   ·exact h
   ·simp [List.getElem?_eq_none h] at h3
  refine ⟨by rw [hsize];omega,?_⟩
  have:((⟨args⟩:Array Value) ++ Array.replicate (fn.ntmps - (⟨args⟩:Array Value).size) undef).getD t undef = v':=by
   have h5:args[t] = v':=by rw [List.getElem?_eq_getElem hlt] at h3;simpa using h3
   rw [Array.getD,dif_pos (by rw [hsize];omega)]
   simp only [Array.getInternal_eq_getElem]
   rw [Array.getElem_append_left (by simpa using hlt)]
   simpa using h5
  rw [this];exact h4
 unfold fnX body at h
 rw [hb] at h
 refine wpIn_mono (exec_sound hmix hcall c none 0 _ m _ ρ _ w hd hl (fun p hp => ⟨rfl,hg p hp,fun _ h => h⟩) hfr h) ?_
 rintro ex a' w' ⟨x,e',m',ρ',rfl,h2,h3,h4⟩
 have fin:∀ S:Ending → World → Prop,(∀ v w'',(∃ v0 m0 ρ'',K v0 m0 = some r ∧ VR ρ'' m0.length v0 v ∧ MRep ρ'' m0 w'' ∧ Evo ρ m w ρ'' m0 w'') → S (.returned v) w'') →
  resT C.T e' m' fn.results.toList (fun vs => K (oneOf vs) m') = some r → LeavesInM Fence.wide 0 P fn a'.tmps S a'.defers .returning w':=by
  intro S hS h5
  obtain ⟨Ds,d1,d2,d3⟩:=h3.defers
  rw [d1]
  refine leaves_marks (ρ:=ρ) (m:=m) (w:=w) ?_ Ds w' d2 d3 h3.st.mem h4
  intro w'' q1 q2
  obtain ⟨v,v',b1,b2,b3⟩:=results_sound (fn:=fn) hT h3.st.env q1 (K:=fun v => K v m') h5
  exact ⟨v',b3,hS v' w'' ⟨v,m',ρ',b1,b2,q1,q2⟩⟩
 match x,h2 with
 | 0,h2 => exact fin _ (fun v w'' ⟨v0,m0,ρ'',b1,b2,b3,b4⟩ => ⟨v0,m0,v,ρ'',rfl,b1,b2,b3,b4⟩) h2
 | 1,h2 => exact fin _ (fun v w'' ⟨v0,m0,ρ'',b1,b2,b3,b4⟩ => ⟨v0,m0,v,ρ'',rfl,b1,b2,b3,b4⟩) h2
 | n + 2,h2 => simp at h2
end
end Go.Mx
