/- The clean memory against the model: calls, and rows of operations. -/
import Derived.Test.YtoljgolgecbcdaaMxOps7
import Derived.Test.YtoljgolgecbcdaaMxDet
import Derived.Scope
set_option linter.unusedVariables false
set_option linter.unusedSimpArgs false
namespace Go.Mx

/-- what is called for: a value at once, or a function that returns -/
def Gives (P : Program) (Q : Value → World → Prop) : Result Next → Prop
  | .ok (.value v) w => Q v w
  | .ok (.enter f args) w => Calls P f args w fun en w' => ∃ v, en = .returned v ∧ Q v w'
  | .ok (.row row args) w => Rows P row args w Q
  | _ => False
theorem Gives.mono {P : Program} {Q Q' : Value → World → Prop} {x : Result Next} (h : Gives P Q x) (hq : ∀ v w, Q v w → Q' v w) : Gives P Q' x := by
  unfold Gives at *
  split at h
  · exact hq _ _ h
  · exact h.mono fun en w' ⟨v, a, b⟩ => ⟨v, a, hq _ _ b⟩
  · exact h.mono hq
  · exact h.elim
/-- a call, told by what holds behind it -/
def CallP (P : Program) (f : FuncId) (vs : List Value) (m : Mem) (Post : Value → Mem → Prop) : Prop :=
  ∀ (ρ : Rn) (w : World) (args : List Value), MRep ρ m w → args.length = vs.length → (∀ (i : Nat) v, vs[i]? = some v → ∃ v', args[i]? = some v' ∧ VR ρ m.length v v') →
    Gives P (fun v' w' => ∃ v m' ρ', Post v m' ∧ VR ρ' m'.length v v' ∧ MRep ρ' m' w' ∧ Evo ρ m w ρ' m' w') ((callFunc f ⟨args⟩).run P w)

theorem CallP.mono {P f vs m} {Post Post' : Value → Mem → Prop} (h : CallP P f vs m Post) (hp : ∀ v m', Post v m' → Post' v m') : CallP P f vs m Post' :=
  fun ρ w args h1 h2 h3 => (h ρ w args h1 h2 h3).mono fun v' w' ⟨v, m', ρ', b, c, d, e⟩ => ⟨v, m', ρ', hp _ _ b, c, d, e⟩
/-- a function with a body is entered -/
theorem callFunc_body {P : Program} {f : FuncId} {fn : Func} (h1 : P.funcs[f]? = some fn) (h2 : (fn.name == "runtime.NumGoroutine") = false) (h3 : fn.body.isSome = true) (args : Array Value) (w : World) : (callFunc f args).run P w = .ok (.enter f args) w := by
  have h3' : fn.body ≠ none := by
    intro hb; simp [hb] at h3
  have h2' : fn.name ≠ "runtime.NumGoroutine" := by simpa using h2
  simp [callFunc, h1, h2', h3']
theorem CallP.calls {P : Program} {f : FuncId} {fn : Func} {vs : List Value} {m : Mem} {Post : Value → Mem → Prop} (h : CallP P f vs m Post) (h1 : P.funcs[f]? = some fn) (h2 : (fn.name == "runtime.NumGoroutine") = false) (h3 : fn.body.isSome = true)
    {ρ : Rn} {w : World} {args : List Value} (hm : MRep ρ m w) (hl : args.length = vs.length) (ha : ∀ (i : Nat) v, vs[i]? = some v → ∃ v', args[i]? = some v' ∧ VR ρ m.length v v') :
    Calls P f ⟨args⟩ w fun en w' => ∃ v m' v' ρ', en = .returned v' ∧ Post v m' ∧ VR ρ' m'.length v v' ∧ MRep ρ' m' w' ∧ Evo ρ m w ρ' m' w' := by
  have := h ρ w args hm hl ha
  rw [callFunc_body h1 h2 h3] at this
  exact Calls.mono this fun en w' ⟨v', he, v, m', ρ', a, b, c, d⟩ => ⟨v, m', v', ρ', he, a, b, c, d⟩
theorem CallP.of_calls {P : Program} {f : FuncId} {fn : Func} {vs : List Value} {m : Mem} {Post : Value → Mem → Prop} (h1 : P.funcs[f]? = some fn) (h2 : (fn.name == "runtime.NumGoroutine") = false) (h3 : fn.body.isSome = true)
    (h : ∀ (ρ : Rn) (w : World) (args : List Value), MRep ρ m w → args.length = vs.length → (∀ (i : Nat) v, vs[i]? = some v → ∃ v', args[i]? = some v' ∧ VR ρ m.length v v') →
      Calls P f ⟨args⟩ w fun en w' => ∃ v m' v' ρ', en = .returned v' ∧ Post v m' ∧ VR ρ' m'.length v v' ∧ MRep ρ' m' w' ∧ Evo ρ m w ρ' m' w') : CallP P f vs m Post := by
  intro ρ w args hm hl ha
  rw [callFunc_body h1 h2 h3]
  exact Calls.mono (h ρ w args hm hl ha) fun en w' ⟨v, m', v', ρ', he, a, b, c, d⟩ => ⟨v', he, v, m', ρ', a, b, c, d⟩

def CallOk (P : Program) {R : Type} (call : Fun R) : Prop := ∀ f vs m K r, call f vs m K = some r → ∃ v m', K v m' = some r ∧ (∀ K', call f vs m K' = K' v m') ∧ CallP P f vs m fun v' m'' => v' = v ∧ m'' = m'

theorem CallOk.post {P : Program} {R : Type} {call : Fun R} (h : CallOk P call) {f vs m K r} (hc : call f vs m K = some r) : CallP P f vs m fun v m' => K v m' = some r := by
  obtain ⟨v, m', h1, h2, h3⟩ := h f vs m K r hc
  exact h3.mono fun v' m'' ⟨a, b⟩ => by subst a; subst b; exact h1
theorem CallOk.det {P : Program} {R : Type} {call : Fun R} (h : CallOk P call) : CallDet call := fun f vs m K r hc => by
  obtain ⟨v, m', h1, h2, h3⟩ := h f vs m K r hc
  exact ⟨v, m', h1, h2⟩

/-- the functions that a function calls, one by one -/
abbrev Arm (R : Type) := List Value → Mem → (Value → Mem → Option R) → Option R
def callNil {R : Type} : Fun R := fun _ _ _ _ => none
def callCons {R : Type} (n : Nat) (a : Arm R) (c : Fun R) : Fun R := fun f vs m K => match gN4 (Nat.beq f n) with
  | true => a vs m K
  | false => c f vs m K
def ArmOk (P : Program) (n : Nat) {R : Type} (a : Arm R) : Prop := ∀ vs m K r, a vs m K = some r → ∃ v m', K v m' = some r ∧ (∀ K', a vs m K' = K' v m') ∧ CallP P n vs m fun v' m'' => v' = v ∧ m'' = m'
theorem callOk_nil {P : Program} {R : Type} : CallOk P (callNil (R := R)) := by
  intro f vs m K r h
  cases h
theorem callOk_cons {P : Program} {R : Type} {n : Nat} {a : Arm R} {c : Fun R} (ha : ArmOk P n a) (hc : CallOk P c) : CallOk P (callCons n a c) := by
  intro f vs m K r h
  unfold callCons at h ⊢
  cases hb : gN4 (Nat.beq f n) with
  | true =>
    have : f = n := Nat.eq_of_beq_eq_true hb
    subst this
    rw [hb] at h
    exact ha vs m K r h
  | false =>
    rw [hb] at h
    exact hc f vs m K r h

section
variable {P : Program} {R : Type} {C : Ctx R} {r : R}

theorem Did.wp {o : Oper} {ρ m w a v m'} {next : Act → World → Prop} {Q : Exit → Act → World → Prop} (h : Did P a o ρ m w v m')
    (hn : ∀ v' w' ρ', VR ρ' m'.length v v' → MRep ρ' m' w' → Evo ρ m w ρ' m' w' → next (a.put o.dst v') w') : o.wp P a w next Q := by
  obtain ⟨v', w', ρ', h1, h2, h3, h4⟩ := h
  unfold Oper.wp
  rcases h1 with h1 | ⟨h1, rfl⟩
  · rw [h1]; exact hn v' w' ρ' h2 h3 h4
  · rw [h1]; exact hn undef w' ρ' h2 h3 h4

theorem given {o : Oper} {a : Act} {w : World} {next : Act → World → Prop} {Q : Exit → Act → World → Prop} {x : Result Next} {S : Value → World → Prop} (hx : (execOp a.eval o).run P w = x) (hg : Gives P S x) (hn : ∀ v w', S v w' → next (a.put o.dst v) w') : o.wp P a w next Q := by
  unfold Oper.wp
  rw [hx]
  unfold Gives at hg
  split at hg
  · exact hn _ _ hg
  · rw [Oper.upon_enter]
    refine Calls.mono hg ?_
    rintro en w' ⟨v, rfl, hs⟩
    exact hn _ _ hs
  · rw [Oper.upon_row]
    exact Rows.mono hg hn
  · exact hg.elim
theorem VR.fn_inv {ρ : Rn} {L : Nat} {f : FuncId} {fa ca : Array Value} {v' : Value} (h : VR ρ L (.func (.func f) fa ca) v') : ∃ fa' ca' : List Value, v' = .func (.func f) ⟨fa'⟩ ⟨ca'⟩ ∧ fa.toList.length = fa'.length ∧ ca.toList.length = ca'.length ∧
    (∀ (i : Nat) v, fa.toList[i]? = some v → ∃ v', fa'[i]? = some v' ∧ VR ρ L v v') ∧ (∀ (i : Nat) v, ca.toList[i]? = some v → ∃ v', ca'[i]? = some v' ∧ VR ρ L v v') := by
  have conv : ∀ {b b' : List Value}, b.length = b'.length → (∀ i, i < b.length → VR ρ L (b.getD i undef) (b'.getD i undef)) → ∀ (i : Nat) v, b[i]? = some v → ∃ v', b'[i]? = some v' ∧ VR ρ L v v' := by
    intro b b' hl hv i v hi
    have hlt : i < b.length := (List.getElem?_eq_some_iff.1 hi).1
    have h1 := hv i hlt
    rw [List.getD_eq_getElem?_getD, List.getD_eq_getElem?_getD, hi, List.getElem?_eq_getElem (show i < b'.length by omega)] at h1
    exact ⟨_, List.getElem?_eq_getElem (by omega), h1⟩
  cases h with
  | fn _ b b' d d' h1 h2 h3 h4 => exact ⟨b', d', rfl, h1, h2, conv h1 h3, conv h2 h4⟩
theorem fn_args {ρ : Rn} {L : Nat} {fa ca : Array Value} {fa' ca' vs as : List Value} (g1 : fa.toList.length = fa'.length) (g3 : ∀ (i : Nat) v, fa.toList[i]? = some v → ∃ v', fa'[i]? = some v' ∧ VR ρ L v v') (g4 : ∀ (i : Nat) v, ca.toList[i]? = some v → ∃ v', ca'[i]? = some v' ∧ VR ρ L v v')
    (h : ∀ (i : Nat) v, vs[i]? = some v → ∃ v', as[i]? = some v' ∧ VR ρ L v v') (hl : vs.length = as.length) : ∀ (i : Nat) v, (fa.toList ++ vs ++ ca.toList)[i]? = some v → ∃ v', (fa' ++ as ++ ca')[i]? = some v' ∧ VR ρ L v v' := by
  intro i v hi
  rw [List.append_assoc] at hi ⊢
  by_cases h1 : i < fa.toList.length
  · rw [List.getElem?_append_left h1] at hi
    rw [List.getElem?_append_left (by omega)]
    exact g3 i v hi
  · rw [List.getElem?_append_right (by omega)] at hi
    rw [List.getElem?_append_right (by omega), ← g1]
    by_cases h2 : i - fa.toList.length < vs.length
    · rw [List.getElem?_append_left h2] at hi
      rw [List.getElem?_append_left (by omega)]
      exact h _ v hi
    · rw [List.getElem?_append_right (by omega)] at hi
      rw [List.getElem?_append_right (by omega), ← hl]
      exact g4 _ v hi

theorem oper_wp (hcall : CallOk P C.call) {o : Oper} {ρ : Rn} {e : Env} {m : Mem} {a : Act} {w : World} {K : Value → Mem → Option R} {next : Act → World → Prop} {Q : Exit → Act → World → Prop}
    (hs : St P C.T ρ e m a w) (h : oper C o.op e m K = some r)
    (hn : ∀ v m' v' w' ρ', K v m' = some r → VR ρ' m'.length v v' → MRep ρ' m' w' → Evo ρ m w ρ' m' w' → next (a.put o.dst v') w') : o.wp P a w next Q := by
  have fin : ∀ {o' : Oper}, o'.dst = o.dst → (∃ v m', K v m' = some r ∧ Did P a o' ρ m w v m') → o'.wp P a w next Q := by
    rintro o' hd ⟨v, m', h1, h2⟩
    exact h2.wp fun v' w' ρ' a b c => by rw [hd]; exact hn v m' v' w' ρ' h1 a b c
  obtain ⟨dst, op, ty, pos, after, guard⟩ := o
  cases op <;> try (simp only [oper, reduceCtorEq] at h; done)
  case move => exact fin rfl (op_move hs h)
  case assign => exact fin rfl (op_assign hs h)
  case pick => exact fin rfl (op_pick hs h)
  case alloc => exact fin rfl (op_alloc hs h)
  case box => exact fin rfl (op_box hs h)
  case build => exact fin rfl (op_build hs h)
  case buildSlice => exact fin rfl (op_buildSlice hs h)
  case load => exact fin rfl (op_load hs h)
  case store => exact fin rfl (op_store hs h)
  case nilCheck => exact fin rfl (op_nilCheck hs h)
  case fieldAddr => exact fin rfl (op_fieldAddr hs h)
  case field => exact fin rfl (op_field hs h)
  case indexAddr => exact fin rfl (op_indexAddr hs h)
  case index => exact fin rfl (op_index hs h)
  case binOp => exact fin rfl (op_binOp hs h)
  case unOp => exact fin rfl (op_unOp hs h)
  case convert => exact fin rfl (op_convert hs h)
  case makeInterface => exact fin rfl (op_makeInterface hs h)
  case makeSlice => exact fin rfl (op_makeSlice hs h)
  case makeFunc => exact fin rfl (op_makeFunc hs h)
  case slice => exact fin rfl (op_slice hs h)
  case extract => exact fin rfl (op_extract hs h)
  case call c =>
    cases hc : c.callee with
    | builtin b => exact fin rfl (op_builtin hs ⟨b, hc⟩ h)
    | invoke x y => simp [oper, hc] at h
    | value x =>
      cases x with
      | tmp t =>
        simp only [oper, hc] at h
        split at h
        · rename_i f fa ca vs hl hvs
          obtain ⟨h5, h6⟩ := opnds_sound hs.env hvs
          have hf := opnd_sound hs.env (x := .tmp t) (v := .func (.func f) fa ca) (by simpa [opnd] using hl)
          obtain ⟨fa', ca', hev, g1, g2, g3, g4⟩ := hf.fn_inv
          have hrun : (execOp a.eval ⟨dst, .call c, ty, pos, after, guard⟩).run P w = (callFunc f (⟨fa'⟩ ++ c.args.map a.eval ++ ⟨ca'⟩)).run P w := by
            obtain ⟨callee, args, argTypes⟩ := c
            simp only at hc
            subst hc
            simp [execOp, resolve, invoke, Deferred.ofValue, hev]
          have hargs := hcall.post h ρ w (fa' ++ (c.args.map a.eval).toList ++ ca') hs.mem (by simp [← g1, ← g2, h5]) (fn_args g1 g3 g4 (by
            intro i v hi
            obtain ⟨x, h7, h8⟩ := h6 i v hi
            refine ⟨a.eval x, ?_, h8⟩
            rw [Array.toList_map, List.getElem?_map, h7]; rfl) (by simp [h5]))
          rw [show (⟨fa' ++ (c.args.map a.eval).toList ++ ca'⟩ : Array Value) = ⟨fa'⟩ ++ c.args.map a.eval ++ ⟨ca'⟩ by apply Array.toList_inj.1; simp] at hargs
          exact given hrun hargs fun v' w' ⟨v, m', ρ', ha, hb, hc', hd⟩ => hn v m' v' w' ρ' ha hb hc' hd
        · simp at h
      | const c => simp [oper, hc] at h
      | global g => simp [oper, hc] at h
      | func f =>
        simp only [oper, hc] at h
        split at h
        · rename_i vs hvs
          obtain ⟨h5, h6⟩ := opnds_sound hs.env hvs
          have hargs := hcall.post h ρ w (c.args.map a.eval).toList hs.mem (by simp [h5]) (by
            intro i v hi
            obtain ⟨x, h7, h8⟩ := h6 i v hi
            refine ⟨a.eval x, ?_, h8⟩
            rw [Array.toList_map, List.getElem?_map, h7]; rfl)
          have hrun : (execOp a.eval ⟨dst, .call c, ty, pos, after, guard⟩).run P w = (callFunc f (c.args.map a.eval)).run P w := by
            obtain ⟨callee, args, argTypes⟩ := c
            simp only at hc
            subst hc
            simp [execOp, resolve, invoke, Act.eval, Deferred.ofValue]
          exact given hrun hargs fun v' w' ⟨v, m', ρ', ha, hb, hc', hd⟩ => hn v m' v' w' ρ' ha hb hc' hd
        · simp at h

/-! ## regions -/
def dok (nt : Nat) (o : Oper) : Bool := match o.dst with | some d => decide (d < nt) | none => true

theorem EnvR.put {ρ L e tmps d v v'} (h : EnvR ρ L e tmps) (hd : d < tmps.size) (hv : VR ρ L v v') : EnvR ρ L ((d, v) :: e) (tmps.setIfInBounds d v') := by
  intro t u ht
  simp only [lk] at ht
  cases hb : Nat.beq d t with
  | true =>
    rw [hb] at ht
    simp at ht; subst ht
    have := Nat.eq_of_beq_eq_true hb
    subst this
    refine ⟨by simpa using hd, ?_⟩
    simp [Array.getD, hd]; exact hv
  | false =>
    rw [hb] at ht
    have hne : d ≠ t := by
      intro h; subst h
      rw [show Nat.beq d d = true from Nat.beq_refl d] at hb; simp at hb
    obtain ⟨h1, h2⟩ := h t u (by simpa using ht)
    refine ⟨by simpa using h1, ?_⟩
    simp only [Array.getD, Array.size_setIfInBounds, h1, dif_pos, Array.getInternal_eq_getElem] at h2 ⊢
    rw [Array.getElem_setIfInBounds]
    rw [if_neg hne]; exact h2

theorem put_size (a : Act) (d : Option Nat) (v : Value) : (a.put d v).tmps.size = a.tmps.size := by
  cases d <;> simp [Act.put]
theorem put_defers (a : Act) (d : Option Nat) (v : Value) : (a.put d v).defers = a.defers := by
  cases d <;> simp [Act.put]

/-- all that stands before and behind a piece of code -/
structure Fr (P : Program) (T : TT) (nt : Nat) (ρ : Rn) (e : Env) (m : Mem) (a : Act) (w : World) : Prop where
  st : St P T ρ e m a w
  size : a.tmps.size = nt
  defers : a.defers = []

theorem Fr.put {T nt ρ ρ' e m m' a w w' d v v'} (h : Fr P T nt ρ e m a w) (hd : ∀ x, d = some x → x < nt) (hv : VR ρ' m'.length v v') (hm : MRep ρ' m' w') (hev : Evo ρ m w ρ' m' w') :
    Fr P T nt ρ' (putE e d v) m' (a.put d v') w' := by
  refine ⟨⟨h.st.tok, ?_, hm⟩, by rw [put_size]; exact h.size, by rw [put_defers]; exact h.defers⟩
  have he : EnvR ρ' m'.length e a.tmps := h.st.env.mono hev.agree hev.len
  cases d with
  | none => exact he
  | some d => exact he.put (by rw [h.size]; exact hd d rfl) hv

theorem Fr.know {T nt ρ e m a w s b} (h : Fr P T nt ρ e m a w) (hl : lk s e = some (.bool b)) : Fr P T nt ρ ((s, .bool b) :: e) m a w := by
  refine ⟨⟨h.st.tok, ?_, h.st.mem⟩, h.size, h.defers⟩
  intro t u ht
  simp only [lk] at ht
  cases hb : Nat.beq s t with
  | true =>
    rw [hb] at ht
    simp at ht; subst ht
    have := Nat.eq_of_beq_eq_true hb
    subst this
    exact h.st.env _ _ hl
  | false => rw [hb] at ht; exact h.st.env t u (by simpa using ht)

theorem yielded_of {T nt ρ e m a w s j} {ops : Array Oper} (h : Fr P T nt ρ e m a w) (hsl : slotOf ops.toList j = some s) {v : Value} (hl : lk s e = some v) :
    yielded ops a.tmps j = match v with | .bool b => some b | _ => none := by
  obtain ⟨h1, h2⟩ := h.st.env s v hl
  unfold slotOf at hsl
  rw [Array.getElem?_toList] at hsl
  unfold yielded
  rw [hsl]
  have : a.tmps[s]? = some (a.tmps.getD s undef) := by simp [Array.getD, h1]
  simp only [Option.bind_some, this]
  generalize a.tmps.getD s undef = u at h2 ⊢
  cases h2 <;> rfl

theorem opsX_sound (hcall : CallOk P C.call) {ops : Array Oper} {nt : Nat} {Q : Exit → Act → World → Prop} {K : Env → Mem → Option R} :
    ∀ (os : List Oper) (e : Env) (m : Mem) (ρ : Rn) (a : Act) (w : World), (∀ o ∈ os, dok nt o = true) → Fr P C.T nt ρ e m a w → opsX C ops.toList os e m K = some r →
      (∀ e' m' ρ' a' w', K e' m' = some r → Fr P C.T nt ρ' e' m' a' w' → Evo ρ m w ρ' m' w' → Q .normal a' w') → wpList P ops Q os a w
  | [], e, m, ρ, a, w, hd, hf, h, hK => by
    exact hK e m ρ a w h hf (Evo.refl _ _ _)
  | o :: os, e, m, ρ, a, w, hd, hf, h, hK => by
    have hdo : ∀ x, o.dst = some x → x < nt := by
      intro x hx
      have := hd o (by simp)
      simpa [dok, hx] using this
    have hrest : ∀ (e : Env), Fr P C.T nt ρ e m a w → oper C o.op e m (fun v m' => opsX C ops.toList os (putE e o.dst v) m' K) = some r → o.wp P a w (wpList P ops Q os) Q := by
      intro e hf h
      refine oper_wp hcall hf.st h ?_
      intro v m' v' w' ρ' h1 h2 h3 h4
      exact opsX_sound hcall os _ m' ρ' _ w' (fun x hx => hd x (by simp [hx])) (hf.put hdo h2 h3 h4) h1 fun e' m2 ρ2 a' w2 b1 b2 b3 => hK e' m2 ρ2 a' w2 b1 b2 (h4.trans b3)
    have hskip : ∀ (e : Env), Fr P C.T nt ρ e m a w → opsX C ops.toList os (putE e o.dst (.tuple #[])) m K = some r → wpList P ops Q os (a.put o.dst undef) w := by
      intro e hf h
      exact opsX_sound hcall os _ m ρ _ w (fun x hx => hd x (by simp [hx])) (hf.put hdo (.tuple [] [] rfl (by simp)) hf.st.mem (Evo.refl _ _ _)) h hK
    unfold wpList
    simp only [opsX] at h
    cases hg : o.guard with
    | none =>
      rw [hg] at h
      rw [if_pos (by simp [Region.wanted, hg])]
      exact .inl (hrest e hf h)
    | some g =>
      obtain ⟨j, want⟩ := g
      rw [hg] at h
      simp only at h
      split at h
      · simp at h
      · rename_i s hsl
        split at h
        · rename_i t ht
          have hy := yielded_of hf hsl ht
          simp only at hy
          have hw : Region.wanted o (yielded ops a.tmps) = (t == want) := by simp [Region.wanted, hg, hy]
          rw [hw]
          cases t <;> cases want <;> simp only [cond_true, cond_false] at h
          · rw [if_pos (by rfl)]; exact .inl (hrest _ (hf.know ht) h)
          · rw [if_neg (by decide)]; exact hskip _ (hf.know ht) h
          · rw [if_neg (by decide)]; exact hskip _ (hf.know ht) h
          · rw [if_pos (by rfl)]; exact .inl (hrest _ (hf.know ht) h)
        · rename_i cs ht
          have hy := yielded_of hf hsl ht
          have hw : Region.wanted o (yielded ops a.tmps) = false := by simp [Region.wanted, hg, hy]
          rw [hw, if_neg (by decide)]
          exact hskip _ hf h
        · simp at h

end
end Go.Mx
