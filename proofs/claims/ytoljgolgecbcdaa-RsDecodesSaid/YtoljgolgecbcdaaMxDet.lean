/- The interpreter's operations hand on one value and one memory, whatever follows; and they look at their operands alone. -/
import Derived.Test.YtoljgolgecbcdaaMxDefs
set_option linter.unusedVariables false
set_option linter.unusedSimpArgs false
namespace Go.Mx
variable {R : Type}

/-- one value, whatever follows -/
def One {α : Type} (f : (α → Option R) → Option R) (K : α → Option R) (r : R) : Prop := ∃ x, K x = some r ∧ ∀ K', f K' = K' x

theorem One.of_bind {α : Type} {o : Option α} {K : α → Option R} {r : R} (h : o.bind K = some r) : One (fun K => o.bind K) K r := by
  obtain ⟨x, h1, h2⟩ := Option.bind_eq_some_iff.1 h
  exact ⟨x, h2, fun K' => by simp [h1]⟩

theorem bind_one {α β : Type} {o : Option α} {g : α → β} {K : β → Option R} {r : R} (h : (o.bind fun x => K (g x)) = some r) : ∃ y, K y = some r ∧ ∀ K' : β → Option R, (o.bind fun x => K' (g x)) = K' y := by
  obtain ⟨x, h1, h2⟩ := Option.bind_eq_some_iff.1 h
  exact ⟨g x, h2, fun K' => by simp [h1]⟩

theorem getT_one {T : TT} {t : Nat} {cs : List Value} {i : Nat} {K : Value → Option R} {r : R} (h : getT T t cs i K = some r) : ∃ v, K v = some r ∧ ∀ K' : Value → Option R, getT T t cs i K' = K' v := by
  unfold getT at h ⊢
  cases hd : (T t).d <;> simp only [hd] at h ⊢ <;> first | exact bind_one h | exact bind_one (g := fun x => x) h | cases h

theorem ldT_one {T : TT} {t : Nat} {m : Mem} {a : Addr} {K : Value → Option R} {r : R} (h : ldT T t m a K = some r) : ∃ v, K v = some r ∧ ∀ K' : Value → Option R, ldT T t m a K' = K' v := by
  unfold ldT at h ⊢
  cases hd : (T t).d <;> simp only [hd] at h ⊢ <;> first | exact bind_one h | exact bind_one (g := fun x => x) h | cases h

theorem none_one {β : Type} {f : (β → Option R) → Option R} {K : β → Option R} {r : R} (h : (none : Option R) = some r) : ∃ y, K y = some r ∧ ∀ K' : β → Option R, f K' = K' y := by cases h
theorem cond_one {β : Type} {b : Bool} {y : β} {K : β → Option R} {r : R} (h : (bif b then K y else none) = some r) : ∃ z, K z = some r ∧ ∀ K' : β → Option R, (bif b then K' y else none) = K' z := by
  cases b
  · cases h
  · exact ⟨y, h, fun _ => rfl⟩
theorem ncond_one {β : Type} {b : Bool} {y : β} {K : β → Option R} {r : R} (h : (bif b then none else K y) = some r) : ∃ z, K z = some r ∧ ∀ K' : β → Option R, (bif b then none else K' y) = K' z := by
  cases b
  · exact ⟨y, h, fun _ => rfl⟩
  · cases h
theorem condbind_one {β : Type} {b : Bool} {o : Option β} {K : β → Option R} {r : R} (h : (bif b then o.bind K else none) = some r) : ∃ y, K y = some r ∧ ∀ K' : β → Option R, (bif b then o.bind K' else none) = K' y := by
  cases b
  · cases h
  · exact bind_one (g := fun x => x) h

theorem cellsT_one {T : TT} {t : Nat} {v : Value} {K : List Value → Option R} {r : R} (h : cellsT T t v K = some r) : ∃ v', K v' = some r ∧ ∀ K' : List Value → Option R, cellsT T t v K' = K' v' := by
  unfold cellsT at h ⊢
  cases hd : (T t).d <;> simp only [hd] at h ⊢ <;> first | exact cond_one h | (cases v <;> simp only at h ⊢ <;> first | exact cond_one h | exact ⟨_, h, fun _ => rfl⟩ | exact none_one h) | exact none_one h

theorem stT_one {T : TT} {t : Nat} {m : Mem} {a : Addr} {v : Value} {K : Mem → Option R} {r : R} (h : stT T t m a v K = some r) : ∃ m', K m' = some r ∧ ∀ K' : Mem → Option R, stT T t m a v K' = K' m' := by
  unfold stT at h ⊢
  cases hd : (T t).d <;> simp only [hd] at h ⊢ <;> first | exact condbind_one h | (cases v <;> simp only at h ⊢ <;> first | exact condbind_one h | exact bind_one (g := fun x => x) h | exact none_one h) | exact none_one h

theorem binI_one {op : BinOp} {k : IntKind} {x y : Int} {K : Value → Option R} {r : R} (h : binI op k x y K = some r) : ∃ v, K v = some r ∧ ∀ K' : Value → Option R, binI op k x y K' = K' v := by
  unfold binI at h ⊢
  cases op <;> simp only at h ⊢ <;> first | exact ⟨_, h, fun _ => rfl⟩ | exact ncond_one h

theorem fillS_one {T : TT} {fs : List (Nat × Nat)} {e : Env} {N : Nat} {K : List Value → Option R} {r : R} : ∀ {ps : List (Nat × Operand)} {cs : List Value}, fillS T fs e N ps cs K = some r → ∃ v, K v = some r ∧ ∀ K' : List Value → Option R, fillS T fs e N ps cs K' = K' v
  | [], cs, h => ⟨cs, h, fun _ => rfl⟩
  | (i, x) :: ps, cs, h => by
    simp only [fillS, gN_eq] at h ⊢
    cases h1 : fs[i]? with
    | none => simp [h1] at h
    | some p =>
      obtain ⟨t, off⟩ := p
      cases h2 : opnd e x with
      | none => simp [h1, h2] at h
      | some v =>
        simp only [h1, h2] at h ⊢
        obtain ⟨vs, h3, h4⟩ := cellsT_one h
        simp only [h4]
        cases hb : Nat.ble (off + (T t).size) N with
        | false => rw [hb] at h3; cases h3
        | true => rw [hb] at h3; exact fillS_one h3

theorem fillA_one {T : TT} {t : Nat} {e : Env} {N : Nat} {K : List Value → Option R} {r : R} : ∀ {ps : List (Nat × Operand)} {cs : List Value}, fillA T t e N ps cs K = some r → ∃ v, K v = some r ∧ ∀ K' : List Value → Option R, fillA T t e N ps cs K' = K' v
  | [], cs, h => ⟨cs, h, fun _ => rfl⟩
  | (i, x) :: ps, cs, h => by
    simp only [fillA, gN_eq] at h ⊢
    cases h2 : opnd e x with
    | none => simp [h2] at h
    | some v =>
      simp only [h2] at h ⊢
      obtain ⟨vs, h3, h4⟩ := cellsT_one h
      simp only [h4]
      cases hb : Nat.ble (i * (T t).size + (T t).size) N with
      | false => rw [hb] at h3; cases h3
      | true => rw [hb] at h3; exact fillA_one h3

theorem binV_one {T : TT} {d : TD} {eq : Option (List EK)} {op : BinOp} {x y : Value} {yn : Bool} {K : Value → Option R} {r : R} (h : binV T d eq op x y yn K = some r) : ∃ v, K v = some r ∧ ∀ K' : Value → Option R, binV T d eq op x y yn K' = K' v := by
  unfold binV at h ⊢
  split at h
  · split at h
    · split at h
      · exact binI_one h
      · exact binI_one h
      · split at h
        · rename_i hk
          obtain ⟨v, h1, h2⟩ := binI_one h
          refine ⟨v, h1, fun K' => ?_⟩
          rw [if_pos hk]
          exact h2 K'
        · exact none_one h
    · exact none_one h
  · split at h
    · split at h <;> first | exact ⟨_, h, fun _ => rfl⟩ | exact none_one h
    · exact none_one h
  · split at h <;> first | exact ⟨_, h, fun _ => rfl⟩ | exact none_one h
  · split at h <;> first | exact ⟨_, h, fun _ => rfl⟩ | exact none_one h
  · split at h <;> first | exact ⟨_, h, fun _ => rfl⟩ | exact none_one h
  · split at h
    · obtain ⟨ks, h1, h2⟩ := Option.bind_eq_some_iff.1 h
      obtain ⟨c, h3, h4⟩ := Option.bind_eq_some_iff.1 h2
      exact ⟨_, h4, fun K' => by simp [h1, h3]⟩
    · obtain ⟨ks, h1, h2⟩ := Option.bind_eq_some_iff.1 h
      obtain ⟨c, h3, h4⟩ := Option.bind_eq_some_iff.1 h2
      exact ⟨_, h4, fun K' => by simp [h1, h3]⟩
    · exact none_one h
  · split at h
    · obtain ⟨ks, h1, h2⟩ := Option.bind_eq_some_iff.1 h
      obtain ⟨c, h3, h4⟩ := Option.bind_eq_some_iff.1 h2
      exact ⟨_, h4, fun K' => by simp [h1, h3]⟩
    · obtain ⟨ks, h1, h2⟩ := Option.bind_eq_some_iff.1 h
      obtain ⟨c, h3, h4⟩ := Option.bind_eq_some_iff.1 h2
      exact ⟨_, h4, fun K' => by simp [h1, h3]⟩
    · exact none_one h
  · split at h <;> first | (cases yn <;> exact bind_one h) | exact none_one h
  · exact none_one h

theorem sliceG_one {p : Option Addr} {n c z : Nat} {arr : Bool} {lo hi mx : Option Value} {K : Value → Option R} {r : R} (h : sliceK.go p n c z arr K lo hi mx = some r) : ∃ v, K v = some r ∧ ∀ K' : Value → Option R, sliceK.go p n c z arr K' lo hi mx = K' v := by
  unfold sliceK.go at h ⊢
  split at h <;> first | exact ⟨_, h, fun _ => rfl⟩ | exact none_one h | exact cond_one h

theorem sliceK_one {T : TT} {t : Nat} {x : Value} {lo hi mx : Option Value} {K : Value → Option R} {r : R} (h : sliceK T t x lo hi mx K = some r) : ∃ v, K v = some r ∧ ∀ K' : Value → Option R, sliceK T t x lo hi mx K' = K' v := by
  unfold sliceK at h ⊢
  split at h
  · rename_i hd
    skip
    split at h <;> first | exact ⟨_, h, fun _ => rfl⟩ | exact none_one h | exact cond_one h
  · rename_i hd; exact sliceG_one h
  · rename_i hd; exact sliceG_one h
  · exact none_one h

/-- what a callee hands on doesn't hang on what follows -/
def CallDet (call : Fun R) : Prop := ∀ f vs m K r, call f vs m K = some r → ∃ v m', K v m' = some r ∧ ∀ K', call f vs m K' = K' v m'

theorem oper_one {C : Ctx R} (hc : CallDet C.call) {op : Op} {e : Env} {m : Mem} {K : Value → Mem → Option R} {r : R} (h : oper C op e m K = some r) :
    ∃ v m', K v m' = some r ∧ (effB op = false → m' = m) ∧ ∀ K', oper C op e m K' = K' v m' := by
  have keep : ∀ {f : (Value → Option R) → Option R}, (∃ v, K v m = some r ∧ ∀ K' : Value → Option R, f K' = K' v) → ∃ v m', K v m' = some r ∧ (effB op = false → m' = m) ∧ ∀ K' : Value → Mem → Option R, f (fun v => K' v m) = K' v m' :=
    fun ⟨v, h1, h2⟩ => ⟨v, m, h1, fun _ => rfl, fun K' => h2 _⟩
  cases op <;> try (simp only [oper, reduceCtorEq] at h; done)
  case move x => simp only [oper] at h ⊢; cases hx : opnd e x <;> simp only [hx] at h ⊢ <;> first | exact ⟨_, _, h, fun _ => rfl, fun _ => rfl⟩ | cases h
  case assign x => simp only [oper] at h ⊢; cases hx : opnd e x <;> simp only [hx] at h ⊢ <;> first | exact ⟨_, _, h, fun _ => rfl, fun _ => rfl⟩ | cases h
  case pick c a b =>
    simp only [oper] at h ⊢
    split at h
    · rename_i t ht
      cases t
      · simp only [cond_false] at h ⊢; cases hx : opnd e b <;> simp only [hx] at h ⊢ <;> first | exact ⟨_, _, h, fun _ => rfl, fun _ => rfl⟩ | cases h
      · simp only [cond_true] at h ⊢; cases hx : opnd e a <;> simp only [hx] at h ⊢ <;> first | exact ⟨_, _, h, fun _ => rfl, fun _ => rfl⟩ | cases h
    · cases h
  case alloc t => simp only [oper] at h ⊢; split at h <;> first | cases h | exact ⟨_, _, h, fun hh => by simp [effB] at hh, fun _ => rfl⟩
  case box t x =>
    simp only [oper] at h ⊢
    split at h
    · obtain ⟨v, h1, h2⟩ := cellsT_one h
      exact ⟨_, _, h1, fun hh => by simp [effB] at hh, fun K' => h2 _⟩
    · cases h
  case build t ps =>
    simp only [oper] at h ⊢
    split at h
    · exact keep (f := fun K => fillS _ _ _ _ _ _ fun cs => K (.agg ⟨cs⟩)) (by obtain ⟨v, h1, h2⟩ := fillS_one h; exact ⟨_, h1, fun K' => h2 _⟩)
    · exact keep (f := fun K => fillA _ _ _ _ _ _ fun cs => K (.agg ⟨cs⟩)) (by obtain ⟨v, h1, h2⟩ := fillA_one h; exact ⟨_, h1, fun K' => h2 _⟩)
    · cases h
  case buildSlice t n ps =>
    simp only [oper] at h ⊢
    split at h
    · generalize hb : Nat.ble _ _ = b at h ⊢
      cases b
      · cases h
      · obtain ⟨v, h1, h2⟩ := fillA_one h; exact ⟨_, _, h1, fun hh => by simp [effB] at hh, fun K' => h2 _⟩
    · cases h
  case load t x =>
    simp only [oper] at h ⊢
    split at h
    · exact keep (f := fun K => ldT _ _ _ _ fun v => K v) (ldT_one h)
    · cases h
  case store t x y =>
    simp only [oper] at h ⊢
    split at h
    · obtain ⟨v, h1, h2⟩ := stT_one h; exact ⟨_, _, h1, fun hh => by simp [effB] at hh, fun K' => h2 _⟩
    · cases h
  case nilCheck x =>
    simp only [oper] at h ⊢
    split at h
    · exact keep (f := fun K => Option.bind _ fun a => K _) (bind_one h)
    · cases h
  case fieldAddr t x i =>
    simp only [oper] at h ⊢
    split at h
    · split at h
      · generalize hb : Nat.beq _ _ = b at h ⊢
        cases b
        · exact ⟨_, _, h, fun _ => rfl, fun _ => rfl⟩
        · cases h
      · cases h
    · cases h
  case field t x i =>
    simp only [oper] at h ⊢
    split at h
    · split at h
      · exact keep (f := fun K => getT _ _ _ _ fun v => K v) (getT_one h)
      · cases h
    · cases h
  case indexAddr t x i =>
    simp only [oper] at h ⊢
    split at h
    · exact keep (f := fun K => bif _ then K _ else none) (cond_one h)
    · generalize hb : inRange _ _ = b at h ⊢
      cases b
      · cases h
      · obtain ⟨a, ha, h1⟩ := Option.bind_eq_some_iff.1 h
        exact ⟨_, _, h1, fun _ => rfl, fun K' => by simp [ha]⟩
    · cases h
  case index t x i =>
    simp only [oper] at h ⊢
    split at h
    · refine keep (f := fun K => bif _ then getT _ _ _ _ (fun v => K v) else none) ?_
      generalize hb : inRange _ _ = b at h ⊢
      cases b
      · cases h
      · exact getT_one h
    · exact keep (f := fun K => bif _ then K _ else none) (cond_one h)
    · cases h
  case binOp o t x y u =>
    simp only [oper] at h ⊢
    split at h
    · exact keep (f := fun K => binV _ _ _ _ _ _ _ fun v => K v) (binV_one h)
    · cases h
  case unOp o t x =>
    simp only [oper] at h ⊢
    split at h <;> first | exact ⟨_, _, h, fun _ => rfl, fun _ => rfl⟩ | cases h
  case convert s t x =>
    simp only [oper] at h ⊢
    split at h
    · exact ⟨_, _, h, fun _ => rfl, fun _ => rfl⟩
    · exact ⟨_, _, h, fun _ => rfl, fun _ => rfl⟩
    · generalize hb : isU8 _ = b at h ⊢
      cases b
      · cases h
      · obtain ⟨x, h1, h2⟩ := Option.bind_eq_some_iff.1 h
        obtain ⟨y, h3, h4⟩ := Option.bind_eq_some_iff.1 h2
        exact ⟨_, _, h4, fun _ => rfl, fun K' => by simp [h1, h3]⟩
    · cases h
  case makeFunc fn fs cs =>
    simp only [oper] at h ⊢
    split at h <;> first | exact ⟨_, _, h, fun _ => rfl, fun _ => rfl⟩ | cases h
  case makeInterface t x =>
    simp only [oper] at h ⊢
    split at h <;> first | exact ⟨_, _, h, fun _ => rfl, fun _ => rfl⟩ | cases h
  case makeSlice t l c =>
    simp only [oper] at h ⊢
    split at h
    · generalize hb : (_ && _ && _ && _ : Bool) = b at h ⊢
      cases b
      · cases h
      · exact ⟨_, _, h, fun hh => by simp [effB] at hh, fun _ => rfl⟩
    · cases h
  case slice t x lo hi mx =>
    simp only [oper] at h ⊢
    split at h
    · exact keep (f := fun K => sliceK _ _ _ _ _ _ fun v => K v) (sliceK_one h)
    · cases h
  case extract x i =>
    simp only [oper] at h ⊢
    split at h
    · split at h
      · exact ⟨_, _, h, fun _ => rfl, fun _ => rfl⟩
      · cases h
    · cases h
  case call c =>
    have rest : ∀ (b : Builtin), c.callee = .builtin b → (b = .len ∨ b = .min ∨ b = .max ∨ b = .append ∨ b = .copy) := by
      intro b hb
      simp only [oper, hb] at h
      cases b <;> first | (simp only [reduceCtorEq] at h; done) | simp
    cases hcl : c.callee with
    | value x =>
      simp only [oper, hcl] at h ⊢
      cases x <;> simp only at h ⊢ <;> first | cases h | skip
      all_goals
        split at h
        · obtain ⟨v, m', h1, h2⟩ := hc _ _ _ _ _ h
          exact ⟨v, m', h1, fun hh => by simp [effB, hcl] at hh, h2⟩
        · cases h
    | invoke x y => simp [oper, hcl] at h
    | builtin b =>
      rcases rest b hcl with rfl | rfl | rfl | rfl | rfl <;> simp only [oper, hcl] at h ⊢
      · split at h
        · split at h <;> first | exact ⟨_, _, h, fun _ => rfl, fun _ => rfl⟩ | cases h
        · cases h
      · split at h
        · split at h
          · rename_i hk; exact ⟨_, _, h, fun _ => rfl, fun _ => by rw [if_pos hk]⟩
          · cases h
        · cases h
      · split at h
        · split at h
          · rename_i hk; exact ⟨_, _, h, fun _ => rfl, fun _ => by rw [if_pos hk]⟩
          · cases h
        · cases h
      · split at h
        · split at h
          · generalize hb : notInt _ = b at h ⊢
            cases b
            · cases h
            · obtain ⟨x, h1, h2⟩ := Option.bind_eq_some_iff.1 h
              obtain ⟨y, h3, h4⟩ := Option.bind_eq_some_iff.1 h2
              exact ⟨_, _, h4, fun hh => by simp [effB, hcl] at hh, fun K' => by simp [h1, h3]⟩
          · generalize hb : (_ && _ : Bool) = b at h ⊢
            cases b
            · cases h
            · obtain ⟨y, h3, h4⟩ := Option.bind_eq_some_iff.1 h
              exact ⟨_, _, h4, fun hh => by simp [effB, hcl] at hh, fun K' => by simp [h3]⟩
          · generalize hb : (_ && _ : Bool) = b at h ⊢
            cases b
            · cases h
            · obtain ⟨y, h3, h4⟩ := Option.bind_eq_some_iff.1 h
              exact ⟨_, _, h4, fun hh => by simp [effB, hcl] at hh, fun K' => by simp [h3]⟩
          · cases h
        · cases h
      · split at h
        · split at h
          · obtain ⟨x, h1, h2⟩ := Option.bind_eq_some_iff.1 h
            obtain ⟨y, h3, h4⟩ := Option.bind_eq_some_iff.1 h2
            exact ⟨_, _, h4, fun hh => by simp [effB, hcl] at hh, fun K' => by simp [h1, h3]⟩
          · generalize hb : Nat.beq _ _ = b at h ⊢
            cases b
            · cases h
            · obtain ⟨y, h3, h4⟩ := Option.bind_eq_some_iff.1 h
              exact ⟨_, _, h4, fun hh => by simp [effB, hcl] at hh, fun K' => by simp [h3]⟩
          · cases h
        · cases h

/-- an operation that neither changes nor reads the memory does the same in every memory -/
theorem oper_pure {C : Ctx R} {op : Op} {e : Env} {m m2 : Mem} {K : Value → Mem → Option R} (h1 : effB op = false) (h2 : loadB op = false) (h3 : pureConv C.T op = true) : oper C op e m2 K = oper C op e m fun v _ => K v m2 := by
  by_cases hcv : ∃ s t x, op = .convert s t x
  · obtain ⟨s, t, x, rfl⟩ := hcv
    simp only [pureConv] at h3
    simp only [oper]
    split at h3
    · cases h3
    · rename_i hn
      cases hs : (C.T s).d <;> cases ht : (C.T t).d <;> first | rfl | (exact absurd ht (hn _ hs)) | (cases opnd e x with
        | none => rfl
        | some v => cases v <;> rfl)
  cases op <;> first | rfl | (simp only [effB, loadB, reduceCtorEq] at h1 h2; done) | exact absurd ⟨_, _, _, rfl⟩ hcv | skip
  case call c =>
    cases hcl : c.callee with
    | value x => simp [effB, hcl] at h1
    | invoke x y => simp [effB, hcl] at h1
    | builtin b => cases b <;> first | (simp [effB, hcl] at h1; done) | (simp only [oper, hcl])

theorem opnds_env {e e' : Env} : ∀ {l : List Operand}, (∀ x ∈ l, opnd e x = opnd e' x) → opnds e l = opnds e' l
  | [], _ => rfl
  | x :: l, h => by simp only [opnds, h x (by simp), opnds_env (l := l) fun y hy => h y (List.mem_cons_of_mem _ hy)]

theorem fillS_env {T : TT} {fs : List (Nat × Nat)} {e e' : Env} {N : Nat} {K : List Value → Option R} : ∀ {ps : List (Nat × Operand)} {cs : List Value}, (∀ p ∈ ps, opnd e p.2 = opnd e' p.2) → fillS T fs e N ps cs K = fillS T fs e' N ps cs K
  | [], cs, _ => rfl
  | (i, x) :: ps, cs, h => by
    simp only [fillS, gN_eq, h (i, x) (by simp)]
    simp only [fillS_env fun p hp => h p (List.mem_cons_of_mem _ hp)]

theorem fillA_env {T : TT} {t : Nat} {e e' : Env} {N : Nat} {K : List Value → Option R} : ∀ {ps : List (Nat × Operand)} {cs : List Value}, (∀ p ∈ ps, opnd e p.2 = opnd e' p.2) → fillA T t e N ps cs K = fillA T t e' N ps cs K
  | [], cs, _ => rfl
  | (i, x) :: ps, cs, h => by
    simp only [fillA, gN_eq, h (i, x) (by simp)]
    simp only [fillA_env fun p hp => h p (List.mem_cons_of_mem _ hp)]

theorem opO_env {e e' : Env} {o : Option Operand} (h : ∀ x ∈ o.toList, opnd e x = opnd e' x) : opO e o = opO e' o := by
  cases o with
  | none => rfl
  | some x => simp only [opO, h x (by simp)]

/-- an operation looks at its operands alone -/
theorem oper_env {C : Ctx R} {op : Op} {e e' : Env} {m : Mem} {K : Value → Mem → Option R} (h : ∀ x ∈ op.operands.toList, opnd e x = opnd e' x) : oper C op e m K = oper C op e' m K := by
  cases op <;> try rfl
  case move x => simp only [oper, h x (by simp [Op.operands])]
  case assign x => simp only [oper, h x (by simp [Op.operands])]
  case pick c a b => simp only [oper, h a (by simp [Op.operands]), h b (by simp [Op.operands]), h c (by simp [Op.operands])]
  case box t x => simp only [oper, h x (by simp [Op.operands])]
  case build t ps =>
    have : ∀ p ∈ ps.toList, opnd e p.2 = opnd e' p.2 := fun p hp => h p.2 (by simp only [Op.operands]; exact List.mem_map.2 ⟨p, hp, rfl⟩)
    simp only [oper, fillS_env this, fillA_env this]
  case buildSlice t n ps =>
    have : ∀ p ∈ ps.toList, opnd e p.2 = opnd e' p.2 := fun p hp => h p.2 (by simp only [Op.operands]; exact List.mem_map.2 ⟨p, hp, rfl⟩)
    simp only [oper, fillA_env this]
  case load t x => simp only [oper, h x (by simp [Op.operands])]
  case store t x y => simp only [oper, h x (by simp [Op.operands]), h y (by simp [Op.operands])]
  case nilCheck x => simp only [oper, h x (by simp [Op.operands])]
  case fieldAddr t x i => simp only [oper, h x (by simp [Op.operands])]
  case field t x i => simp only [oper, h x (by simp [Op.operands])]
  case indexAddr t x y => simp only [oper, h x (by simp [Op.operands]), h y (by simp [Op.operands])]
  case index t x y => simp only [oper, h x (by simp [Op.operands]), h y (by simp [Op.operands])]
  case binOp o t x y u => simp only [oper, h x (by simp [Op.operands]), h y (by simp [Op.operands])]
  case unOp o t x => simp only [oper, h x (by simp [Op.operands])]
  case convert s t x => simp only [oper, h x (by simp [Op.operands])]
  case makeInterface t x => simp only [oper, h x (by simp [Op.operands])]
  case makeFunc fn fs cs => simp only [oper, opnds_env (l := fs.toList) fun x hx => h x (by simp [Op.operands] at hx ⊢; simp [hx]), opnds_env (l := cs.toList) fun x hx => h x (by simp [Op.operands] at hx ⊢; simp [hx])]
  case makeSlice t x y => simp only [oper, h x (by simp [Op.operands]), h y (by simp [Op.operands])]
  case slice t x lo hi mx =>
    simp only [oper, h x (by simp [Op.operands])]
    rw [opO_env (e := e) (e' := e') (o := lo) fun y hy => h y (by simp [Op.operands] at hy ⊢; simp [hy]), opO_env (e := e) (e' := e') (o := hi) fun y hy => h y (by simp [Op.operands] at hy ⊢; simp [hy]), opO_env (e := e) (e' := e') (o := mx) fun y hy => h y (by simp [Op.operands] at hy ⊢; simp [hy])]
  case extract x i => simp only [oper, h x (by simp [Op.operands])]
  case call c =>
    have : opnds e c.args.toList = opnds e' c.args.toList := opnds_env fun x hx => h x (by
      cases hcl : c.callee <;> simp [Op.operands, Call.operands, hcl] at hx ⊢ <;> simp [hx])
    cases hcl : c.callee with
    | builtin b => simp only [oper, hcl, this]; cases b <;> rfl
    | invoke x y => simp only [oper, hcl]
    | value x =>
      cases x with
      | tmp t =>
        have ht := h (.tmp t) (by simp [Op.operands, Call.operands, hcl])
        simp only [opnd] at ht
        simp only [oper, hcl, this, ht]
      | const v => simp only [oper, hcl]
      | global g => simp only [oper, hcl]
      | func f => simp only [oper, hcl, this]
end Go.Mx
