/- The clean memory against the model: a row of operations whose order is drawn answers, in every order, as the row read from left to right. -/
import Derived.Test.YtoljgolgecbcdaaMxCall
import Derived.Orders
set_option linter.unusedVariables false
set_option linter.unusedSimpArgs false
namespace Go.Mx

theorem veq1_eq {a b : Value} (h : veq1 a b = true) : a = b := by
  unfold veq1 at h
  split at h <;> simp only [Bool.and_eq_true, decide_eq_true_eq, beq_iff_eq, reduceCtorEq] at h
  · obtain ⟨rfl, rfl⟩ := h; rfl
  · subst h; rfl
  · rename_i a b; rw [show a = b from ByteArray.ext h]
  · subst h; rfl
  · obtain ⟨⟨rfl, h2⟩, h3⟩ := h; rw [Nat.eq_of_beq_eq_true h2, Nat.eq_of_beq_eq_true h3]
  · subst h; rfl
  · rfl
  · obtain ⟨⟨h1, rfl⟩, rfl⟩ := h; rw [Nat.eq_of_beq_eq_true h1]

theorem veqs_eq : ∀ {a b : List Value}, veqs a b = true → a = b
  | [], [], _ => rfl
  | x :: xs, y :: ys, h => by
    simp only [veqs, Bool.and_eq_true] at h
    rw [veq1_eq h.1, veqs_eq h.2]
  | [], _ :: _, h => by simp [veqs] at h
  | _ :: _, [], h => by simp [veqs] at h

theorem veq_eq {a b : Value} (h : veq a b = true) : a = b := by
  unfold veq at h
  split at h
  · rename_i a b; rw [show a = b from Array.toList_inj.1 (veqs_eq h)]
  · exact veq1_eq h

theorem hasN_iff {l : List Nat} {n : Nat} : hasN l n = true ↔ n ∈ l := by
  unfold hasN
  rw [List.any_eq_true]
  constructor
  · rintro ⟨x, h1, h2⟩; rw [← Nat.eq_of_beq_eq_true h2]; exact h1
  · intro h; exact ⟨n, h, Nat.beq_refl n⟩
theorem dstIs_iff {o : Oper} {t : Nat} : dstIs o t = true ↔ o.dst = some t := by
  unfold dstIs
  cases o.dst with
  | none => simp
  | some d => simp
theorem ordB_iff {i j : Nat} : ordB i j = true ↔ i < j := by
  unfold ordB; rw [Nat.ble_eq]; exact Iff.rfl

theorem allI_spec {p : Nat → Oper → Bool} : ∀ {os : List Oper} {i : Nat}, allI p i os = true → ∀ j o, os[j]? = some o → p (i + j) o = true
  | [], i, h, j, o, ho => by simp at ho
  | x :: os, i, h, 0, o, ho => by
    simp only [allI, Bool.and_eq_true] at h
    simp at ho; subst ho; exact h.1
  | x :: os, i, h, j + 1, o, ho => by
    simp only [allI, Bool.and_eq_true] at h
    have := allI_spec h.2 j o (by simpa using ho)
    rwa [show i + 1 + j = i + (j + 1) by omega] at this
theorem allI_mk {p : Nat → Oper → Bool} : ∀ {os : List Oper} {i : Nat}, (∀ j o, os[j]? = some o → p (i + j) o = true) → allI p i os = true
  | [], i, h => rfl
  | x :: os, i, h => by
    simp only [allI, Bool.and_eq_true]
    refine ⟨h 0 x rfl, allI_mk fun j o ho => ?_⟩
    rw [show i + 1 + j = i + (j + 1) by omega]
    exact h (j + 1) o (by simpa using ho)

structure Fine (all : List Oper) (cs : List (List Nat)) : Prop where
  low : ∀ (i : Nat) o, all[i]? = some o → ∀ k ∈ preOf o, k < i
  clo : ∀ (i : Nat) o, all[i]? = some o → ∀ k ∈ cs.getD i [], k ∈ preOf o ∨ ∃ j ∈ preOf o, k ∈ cs.getD j []
  dst : ∀ (i j : Nat) oi oj d, all[i]? = some oi → all[j]? = some oj → i ≠ j → oj.dst = some d → oi.dst ≠ some d
  reads : ∀ (i j : Nat) oi oj d, all[i]? = some oi → all[j]? = some oj → i ≠ j → oj.dst = some d → d ∈ readsO all oi → j ∈ preOf oi ∨ i ∈ preOf oj
  eff : ∀ (i j : Nat) oi oj, all[i]? = some oi → all[j]? = some oj → effB oi.op = true → effB oj.op = true → j < i → j ∈ cs.getD i []

theorem drawOk_fine {all : List Oper} {cs : List (List Nat)} (h : drawOk all cs = true) : Fine all cs := by
  have h1 : ∀ i oi, all[i]? = some oi → oneOkI cs i oi = true ∧ ∀ j oj, all[j]? = some oj → pairOkI all cs i oi j oj = true := by
    intro i oi hi
    have := allI_spec h i oi hi
    rw [Nat.zero_add, Bool.and_eq_true] at this
    exact ⟨this.1, fun j oj hj => by have := allI_spec this.2 j oj hj; rwa [Nat.zero_add] at this⟩
  have h2 : ∀ i j oi oj, all[i]? = some oi → all[j]? = some oj → i ≠ j → (∀ d, oj.dst = some d → oi.dst ≠ some d ∧ (d ∈ readsO all oi → j ∈ preOf oi ∨ i ∈ preOf oj)) ∧ (effB oi.op = true → effB oj.op = true → j < i → j ∈ cs.getD i []) := by
    intro i j oi oj hi hj hne
    have := (h1 i oi hi).2 j oj hj
    unfold pairOkI at this
    rw [show Nat.beq i j = false by cases hb : Nat.beq i j with | false => rfl | true => exact absurd (Nat.eq_of_beq_eq_true hb) hne, Bool.false_or, Bool.and_eq_true] at this
    obtain ⟨ha, hb⟩ := this
    constructor
    · intro d hd
      simp only [hd, Bool.and_eq_true, Bool.not_eq_true', Bool.or_eq_true] at ha
      refine ⟨fun hh => ?_, fun hm => ?_⟩
      · rw [dstIs_iff.2 hh] at ha; exact absurd ha.1 (by simp)
      · rcases ha.2 with (h5 | h5) | h5
        · rw [hasN_iff.2 hm] at h5; cases h5
        · exact .inl (hasN_iff.1 h5)
        · exact .inr (hasN_iff.1 h5)
    · intro e1 e2 e3
      rw [e1, e2, ordB_iff.2 e3] at hb
      simpa [hasN_iff] using hb
  constructor
  · intro i o hi k hk
    have := (h1 i o hi).1
    simp only [oneOkI, Bool.and_eq_true, List.all_eq_true] at this
    exact ordB_iff.1 (this.1 k hk)
  · intro i o hi k hk
    have := (h1 i o hi).1
    simp only [oneOkI, Bool.and_eq_true, List.all_eq_true, Bool.or_eq_true, List.any_eq_true] at this
    rcases this.2 k hk with h3 | ⟨j, h3, h4⟩
    · exact .inl (hasN_iff.1 h3)
    · exact .inr ⟨j, h3, hasN_iff.1 h4⟩
  · intro i j oi oj d hi hj hne hd; exact ((h2 i j oi oj hi hj hne).1 d hd).1
  · intro i j oi oj d hi hj hne hd; exact ((h2 i j oi oj hi hj hne).1 d hd).2
  · intro i j oi oj hi hj e1 e2 e3; exact (h2 i j oi oj hi hj (by omega)).2 e1 e2 e3

section
variable {P : Program} {R : Type} {C : Ctx R} {r : R}

theorem chkM_spec {T : TT} {t : Nat} {a : Addr} {v : Value} {k : Option R} : ∀ {ms : List Mem}, chkM T t a v k ms = some r → k = some r ∧ ∀ m ∈ ms, ∀ K' : Value → Option R, ldT T t m a K' = K' v
  | [], h => ⟨h, by simp⟩
  | m :: ms, h => by
    simp only [chkM] at h
    obtain ⟨v', h1, h2⟩ := ldT_one h
    cases hv : veq v' v with
    | false => rw [hv] at h1; cases h1
    | true =>
      rw [hv] at h1
      obtain ⟨h3, h4⟩ := chkM_spec h1
      refine ⟨h3, fun m' hm' K' => ?_⟩
      rcases List.mem_cons.1 hm' with rfl | hm'
      · rw [h2 K', veq_eq hv]
      · exact h4 m' hm' K'
theorem chkL_spec {T : TT} {mems : Nat → List Mem} {k : Option R} : ∀ {ls : List Ld}, chkL T mems ls k = some r → k = some r ∧ ∀ l ∈ ls, ∀ m ∈ mems l.i, ∀ K' : Value → Option R, ldT T l.t m l.a K' = K' l.v
  | [], h => ⟨h, by simp⟩
  | l :: ls, h => by
    simp only [chkL] at h
    obtain ⟨h1, h2⟩ := chkM_spec h
    obtain ⟨h3, h4⟩ := chkL_spec h1
    refine ⟨h3, fun l' hl' => ?_⟩
    rcases List.mem_cons.1 hl' with rfl | hl'
    · exact h2
    · exact h4 l' hl'

def Runs (all : List Oper) (e : Env) (o : Oper) : Prop := o.guard = none ∨ ∃ j want s, o.guard = some (j, want) ∧ slotOf all j = some s ∧ lk s e = some (.bool want)
def Skips (all : List Oper) (e : Env) (o : Oper) : Prop := ∃ j want s, o.guard = some (j, want) ∧ slotOf all j = some s ∧ ((∃ t, lk s e = some (.bool t) ∧ t ≠ want) ∨ ∃ cs, lk s e = some (.tuple cs))
def StepP (C : Ctx R) (all : List Oper) (e : Env) (m : Mem) (o : Oper) (v : Value) (m' : Mem) : Prop :=
  (Runs all e o ∧ ∀ K', oper C o.op e m K' = K' v m') ∨ (Skips all e o ∧ v = undef ∧ m' = m)

theorem opnd_ext {e e' : Env} (h : ∀ t, lk t e = lk t e') (x : Operand) : opnd e x = opnd e' x := by
  cases x <;> simp [opnd, h]

/-- what the run from left to right leaves of itself -/
def Trace (C : Ctx R) (all : List Oper) (cs : List (List Nat)) (i : Nat) (os : List Oper) (e : Env) (m : Mem) (ms : List Mem) (ls : List Ld) (K : Env → Mem → Option R) (r : R) : Prop :=
  ∃ (E : Nat → Env) (M : Nat → Mem) (V : Nat → Value) (eN : Env) (ls' : List Ld), (∀ t, lk t (E i) = lk t e) ∧ M i = m ∧
    (∀ j o, os[j]? = some o → StepP C all (E (i + j)) (M (i + j)) o (V (i + j)) (M (i + j + 1)) ∧ (∀ t, lk t (E (i + j + 1)) = lk t (putE (E (i + j)) o.dst (V (i + j)))) ∧
      (∀ t x a, o.op = .load t x → Runs all (E (i + j)) o → opnd (E (i + j)) x = some (.pointer (some a)) → ⟨i + j, t, a, V (i + j)⟩ ∈ ls')) ∧
    (∀ t, lk t eN = lk t (E (i + os.length))) ∧ (∀ l ∈ ls, l ∈ ls') ∧
    chkL C.T (memsOf all cs (ms ++ (List.range os.length).map fun j => M (i + j + 1))) ls' (K eN (M (i + os.length))) = some r

theorem lk_putE {e e1 : Env} {d : Option Nat} {v : Value} (h : ∀ t, lk t e1 = lk t e) (t : Nat) : lk t (putE e1 d v) = lk t (putE e d v) := by
  cases d with
  | none => exact h t
  | some d => simp only [putE, lk, h t]

theorem Trace.cons {all : List Oper} {cs : List (List Nat)} {i : Nat} {o : Oper} {os : List Oper} {e e1 : Env} {m m' : Mem} {v : Value} {ms : List Mem} {ls ls1 : List Ld} {K : Env → Mem → Option R}
    (he : ∀ t, lk t e1 = lk t e) (hs : StepP C all e m o v m') (hls : ∀ l ∈ ls, l ∈ ls1) (hl : ∀ t x a, o.op = .load t x → Runs all e o → opnd e x = some (.pointer (some a)) → ⟨i, t, a, v⟩ ∈ ls1)
    (h : Trace C all cs (i + 1) os (putE e1 o.dst v) m' (ms ++ [m']) ls1 K r) : Trace C all cs i (o :: os) e m ms ls K r := by
  obtain ⟨E, M, V, eN, ls', h1, h2, h3, h4, h5, h6⟩ := h
  have hk : ∀ k, i + 1 + k ≠ i := by intro k; omega
  have hk' : ∀ k, i + (k + 1) ≠ i := by intro k; omega
  refine ⟨fun k => if k = i then e else E k, fun k => if k = i then m else M k, fun k => if k = i then v else V k, eN, ls', fun t => by simp, by simp, ?_, ?_, fun l hl' => h5 l (hls l hl'), ?_⟩
  · intro j o' ho'
    cases j with
    | zero =>
      simp only [List.getElem?_cons_zero, Option.some.injEq] at ho'
      subst ho'
      simp only [Nat.add_zero, if_true, if_neg (show i + 1 ≠ i by omega), h2]
      refine ⟨hs, fun t => ?_, fun t x a a1 a2 a3 => h5 _ (hl t x a a1 a2 a3)⟩
      rw [h1 t, lk_putE he]
    | succ j =>
      simp only [List.getElem?_cons_succ] at ho'
      have := h3 j o' ho'
      simp only [if_neg (hk' j), if_neg (show i + (j + 1) + 1 ≠ i by omega)]
      rw [show i + (j + 1) = i + 1 + j by omega]
      exact this
  · intro t
    simp only [List.length_cons, if_neg (hk' os.length)]
    rw [show i + (os.length + 1) = i + 1 + os.length by omega]
    exact h4 t
  · simp only [List.length_cons, if_neg (hk' os.length)]
    rw [show i + (os.length + 1) = i + 1 + os.length by omega]
    rw [List.range_succ_eq_map, List.map_cons, List.map_map]
    have e1 : (if i + 0 + 1 = i then m else M (i + 0 + 1)) = m' := by rw [if_neg (by omega)]; exact h2
    have e2 : ((fun j => if i + j + 1 = i then m else M (i + j + 1)) ∘ Nat.succ) = fun j => M (i + 1 + j + 1) := by
      funext j
      simp only [Function.comp, Nat.succ_eq_add_one]
      rw [if_neg (by omega)]
      congr 1; omega
    rw [e2, e1]
    simpa using h6

theorem addL_sub {op : Op} {i : Nat} {e : Env} {v : Value} {ls : List Ld} : ∀ l ∈ ls, l ∈ addL op i e v ls := by
  intro l hl
  unfold addL
  split
  · split
    · simp [hl]
    · exact hl
  · exact hl
theorem addL_has {op : Op} {i : Nat} {e : Env} {v : Value} {ls : List Ld} {t : Nat} {x : Operand} {a : Addr} (h : op = .load t x) (hx : opnd e x = some (.pointer (some a))) : ⟨i, t, a, v⟩ ∈ addL op i e v ls := by
  subst h
  simp [addL, hx]

theorem lk_know {e : Env} {s : Nat} {b : Bool} (h : lk s e = some (.bool b)) (t : Nat) : lk t ((s, .bool b) :: e) = lk t e := by
  simp only [lk]
  cases hb : Nat.beq s t with
  | false => rfl
  | true => rw [← Nat.eq_of_beq_eq_true hb, h]; rfl

theorem drawX_trace (hc : CallDet C.call) {all : List Oper} {cs : List (List Nat)} {K : Env → Mem → Option R} : ∀ (os : List Oper) (i : Nat) (e : Env) (m : Mem) (ms : List Mem) (ls : List Ld),
    drawX C all cs i os e m ms ls K = some r → Trace C all cs i os e m ms ls K r
  | [], i, e, m, ms, ls, h => by
    refine ⟨fun _ => e, fun _ => m, fun _ => undef, e, ls, fun t => rfl, rfl, by simp, fun t => rfl, fun l hl => hl, ?_⟩
    simpa [drawX] using h
  | o :: os, i, e, m, ms, ls, h => by
    have runs : ∀ (e1 : Env), (∀ t, lk t e1 = lk t e) → Runs all e o → oper C o.op e1 m (fun v m' => drawX C all cs (i + 1) os (putE e1 o.dst v) m' (ms ++ [m']) (addL o.op i e1 v ls) K) = some r → Trace C all cs i (o :: os) e m ms ls K r := by
      intro e1 he hr h
      obtain ⟨v, m', h1, _, h2⟩ := oper_one hc h
      refine Trace.cons he (.inl ⟨hr, fun K' => ?_⟩) addL_sub ?_ (drawX_trace hc os (i + 1) _ m' _ _ h1)
      · rw [← h2 K']; exact oper_env fun x _ => opnd_ext (fun t => (he t).symm) x
      · intro t x a hx _ hp
        exact addL_has hx (by rw [opnd_ext he x]; exact hp)
    have skips : ∀ (e1 : Env), (∀ t, lk t e1 = lk t e) → Skips all e o → drawX C all cs (i + 1) os (putE e1 o.dst undef) m (ms ++ [m]) ls K = some r → Trace C all cs i (o :: os) e m ms ls K r := by
      intro e1 he hr h
      refine Trace.cons he (.inr ⟨hr, rfl, rfl⟩) (fun l hl => hl) ?_ (drawX_trace hc os (i + 1) _ m _ _ h)
      intro t x a _ hruns _
      exfalso
      obtain ⟨j, want, s, a1, a2, a3⟩ := hr
      rcases hruns with b1 | ⟨j', want', s', b1, b2, b3⟩
      · rw [a1] at b1; cases b1
      · rw [a1] at b1; simp only [Option.some.injEq, Prod.mk.injEq] at b1
        obtain ⟨rfl, rfl⟩ := b1
        rw [a2] at b2; simp only [Option.some.injEq] at b2; subst b2
        rcases a3 with ⟨t', c1, c2⟩ | ⟨cs', c1⟩
        · rw [c1] at b3; simp at b3; exact c2 b3
        · rw [c1] at b3; simp at b3
    unfold drawX at h
    split at h
    · rename_i hg; exact runs e (fun _ => rfl) (.inl hg) h
    · rename_i j want hg
      split at h
      · cases h
      · rename_i s hsl
        split at h
        · rename_i t ht
          cases t <;> cases want <;> simp only [cond_true, cond_false] at h
          · exact runs _ (lk_know ht) (.inr ⟨_, _, _, hg, hsl, ht⟩) h
          · exact skips _ (lk_know ht) ⟨_, _, _, hg, hsl, .inl ⟨_, ht, by simp⟩⟩ h
          · exact skips _ (lk_know ht) ⟨_, _, _, hg, hsl, .inl ⟨_, ht, by simp⟩⟩ h
          · exact runs _ (lk_know ht) (.inr ⟨_, _, _, hg, hsl, ht⟩) h
        · rename_i cs' ht
          exact skips _ (fun _ => rfl) ⟨_, _, _, hg, hsl, .inr ⟨_, ht⟩⟩ h
        · cases h

/-! ## any order -/
theorem ite_some {R : Type} {c : Prop} [Decidable c] {x r : R} (h : (if c then some x else none) = some r) : c := by
  by_cases hc : c
  · exact hc
  · rw [if_neg hc] at h; cases h

def Has (listed : Array Bool) (k : Nat) : Prop := listed.getD k false = true

theorem has_set {listed : Array Bool} {i k : Nat} (hi : i < listed.size) : Has (listed.setIfInBounds i true) k ↔ k = i ∨ Has listed k := by
  unfold Has
  by_cases hik : i = k
  · subst hik; simp [hi]
  · rw [getD_set_ne false hik]
    constructor
    · exact .inr
    · rintro (h | h)
      · exact absurd h.symm hik
      · exact h
theorem not_has {listed : Array Bool} {k : Nat} (h : listed.getD k true = false) : k < listed.size ∧ ¬ Has listed k := by
  unfold Has
  by_cases hk : k < listed.size
  · refine ⟨hk, ?_⟩
    simp [hk] at h ⊢; exact h
  · simp [Array.getElem?_eq_none (Nat.le_of_not_lt hk)] at h
theorem not_has' {listed : Array Bool} {k : Nat} (hk : k < listed.size) (h : ¬ Has listed k) : listed.getD k true = false := by
  unfold Has at h
  simp [hk] at h ⊢; exact h

theorem countP_lt {p q : Nat → Bool} {i : Nat} : ∀ {l : List Nat}, (∀ x ∈ l, p x = true → q x = true) → i ∈ l → q i = true → p i = false → l.countP p < l.countP q
  | [], _, hi, _, _ => by cases hi
  | x :: l, h, hi, hq, hp => by
    have hm : l.countP p ≤ l.countP q := List.countP_mono_left fun y hy => h y (by simp [hy])
    rcases List.mem_cons.1 hi with rfl | hi
    · simp only [List.countP_cons, hq, hp]; simp; omega
    · have := countP_lt (fun y hy => h y (by simp [hy])) hi hq hp
      simp only [List.countP_cons]
      have hx := h x (by simp)
      cases h1 : p x with
      | false => simp; split <;> omega
      | true => simp [hx h1]; omega

theorem Fr.ext {T : TT} {nt : Nat} {ρ : Rn} {e e' : Env} {m : Mem} {a : Act} {w : World} (h : Fr P T nt ρ e m a w) (he : ∀ t, lk t e' = lk t e) : Fr P T nt ρ e' m a w :=
  ⟨⟨h.st.tok, fun t u ht => h.st.env t u (by rw [← he t]; exact ht), h.st.mem⟩, h.size, h.defers⟩

section
variable {ops : Array Oper} {cs : List (List Nat)} {E : Nat → Env} {M : Nat → Mem} {V : Nat → Value} {e0 eN : Env} {m0 : Mem} {ρ0 : Rn} {w0 : World} {nt : Nat} {Q : Exit → Act → World → Prop} {K : Env → Mem → Option R} {ls' : List Ld}

/-- where a run in some order stands -/
structure Mid (P : Program) (C : Ctx R) (ops : Array Oper) (nt : Nat) (M : Nat → Mem) (V : Nat → Value) (e0 : Env) (ρ0 : Rn) (w0 : World) (listed : Array Bool) (a : Act) (w : World) : Prop where
  size : listed.size = ops.size
  closed : ∀ i o, ops.toList[i]? = some o → Has listed i → ∀ k ∈ preOf o, Has listed k
  ex : ∃ ρ' e' j, j ≤ ops.size ∧ (∀ k o, ops.toList[k]? = some o → effB o.op = true → (Has listed k ↔ k < j)) ∧ Fr P C.T nt ρ' e' (M j) a w ∧ Evo ρ0 (M 0) w0 ρ' (M j) w ∧
    (∀ t, (∀ k o, ops.toList[k]? = some o → Has listed k → o.dst ≠ some t) → lk t e' = lk t e0) ∧ ∀ k o t, ops.toList[k]? = some o → Has listed k → o.dst = some t → lk t e' = some (V k)

theorem clo_has (hf : Fine ops.toList cs) {listed : Array Bool} (hcl : ∀ i o, ops.toList[i]? = some o → Has listed i → ∀ k ∈ preOf o, Has listed k) :
    ∀ (i : Nat) o, ops.toList[i]? = some o → (∀ k ∈ preOf o, Has listed k) → ∀ k ∈ cs.getD i [], Has listed k := by
  intro i
  induction i using Nat.strongRecOn with
  | _ i ih =>
    intro o ho hp k hk
    rcases hf.clo i o ho k hk with h | ⟨j, hj, h⟩
    · exact hp k h
    · have hlt := hf.low i o ho j hj
      have hio : i < ops.toList.length := (List.getElem?_eq_some_iff.1 ho).1
      have hj' : ops.toList[j]? = some (ops.toList[j]'(by omega)) := List.getElem?_eq_getElem (by omega)
      exact ih j hlt _ hj' (hcl j _ hj' (hp j hj)) k h

theorem opnd_reads {all : List Oper} {o : Oper} {e e' : Env} (h : ∀ t ∈ readsO all o, lk t e = lk t e') : ∀ x ∈ o.op.operands.toList, opnd e x = opnd e' x := by
  intro x hx
  cases x with
  | tmp t => exact h t (by unfold readsO; exact List.mem_append_left _ (List.mem_filterMap.2 ⟨_, hx, rfl⟩))
  | const c => rfl
  | func f => rfl
  | global g => rfl

theorem slot_reads {all : List Oper} {o : Oper} {j s : Nat} {want : Bool} (hg : o.guard = some (j, want)) (hs : slotOf all j = some s) : s ∈ readsO all o := by
  unfold readsO
  rw [hg]
  exact List.mem_append_right _ (by simp [hs])

theorem region_any (hcall : CallOk P C.call) (hf : Fine ops.toList cs) (hd : ∀ o ∈ ops.toList, dok nt o = true) (hpc : ∀ o ∈ ops.toList, pureConv C.T o.op = true)
    (hE0 : ∀ t, lk t (E 0) = lk t e0)
    (hstep : ∀ j o, ops.toList[j]? = some o → StepP C ops.toList (E j) (M j) o (V j) (M (j + 1)) ∧ (∀ t, lk t (E (j + 1)) = lk t (putE (E j) o.dst (V j))) ∧
      (∀ t x a, o.op = .load t x → Runs ops.toList (E j) o → opnd (E j) x = some (.pointer (some a)) → ⟨j, t, a, V j⟩ ∈ ls'))
    (hchk : ∀ l ∈ ls', ∀ m ∈ memsOf ops.toList cs ((List.range (ops.size + 1)).map M) l.i, ∀ K' : Value → Option R, ldT C.T l.t m l.a K' = K' l.v)
    (hK : ∀ e' ρ' a' w', (∀ t, lk t e' = lk t (E ops.size)) → Fr P C.T nt ρ' e' (M ops.size) a' w' → Evo ρ0 (M 0) w0 ρ' (M ops.size) w' → Q .normal a' w') (hr : Nonempty R) :
    ∀ (fuel : Nat) (listed : Array Bool) (a : Act) (w : World), Mid P C ops nt M V e0 ρ0 w0 listed a w → (List.range ops.size).countP (fun k => !(listed.getD k false)) ≤ fuel → wpAny P .any ops Q fuel listed a w := by
  classical
  have hlen : ops.toList.length = ops.size := by simp
  have getop : ∀ i, i < ops.size → ∃ o, ops.toList[i]? = some o := fun i hi => ⟨_, List.getElem?_eq_getElem (by rw [hlen]; exact hi)⟩
  have ltop : ∀ {i o}, ops.toList[i]? = some o → i < ops.size := fun {i o} h => by have := (List.getElem?_eq_some_iff.1 h).1; rwa [hlen] at this
  obtain ⟨r0⟩ := hr
  -- what an operation that may not change the memory leaves
  have still1 : ∀ i o, ops.toList[i]? = some o → effB o.op = false → M (i + 1) = M i := by
    intro i o ho hb
    rcases (hstep i o ho).1 with ⟨_, h1⟩ | ⟨_, _, h1⟩
    · have h2 := h1 (fun _ m => if m = M (i + 1) then some r0 else none)
      rw [if_pos rfl] at h2
      obtain ⟨v, m', h3, h4, _⟩ := oper_one hcall.det h2
      rw [← (ite_some h3), h4 hb]
    · exact h1
  have still : ∀ b, b ≤ ops.size → ∀ a, a ≤ b → (∀ k o, ops.toList[k]? = some o → a ≤ k → k < b → effB o.op = false) → M a = M b := by
    intro b
    induction b with
    | zero => intro _ a ha _; rw [Nat.le_zero.1 ha]
    | succ b ih =>
      intro hb a ha h
      rcases Nat.lt_or_ge b a with hab | hab
      · rw [show a = b + 1 by omega]
      · obtain ⟨o, ho⟩ := getop b (by omega)
        rw [still1 b o ho (h b o ho hab (by omega))]
        exact ih (by omega) a hab fun k o hk h1 h2 => h k o hk h1 (by omega)
  have env : ∀ i, i ≤ ops.size → ∀ t, ((∀ k o, ops.toList[k]? = some o → k < i → o.dst ≠ some t) → lk t (E i) = lk t e0) ∧ ∀ k o, ops.toList[k]? = some o → k < i → o.dst = some t → lk t (E i) = some (V k) := by
    intro i
    induction i with
    | zero => intro _ t; exact ⟨fun _ => hE0 t, fun k o _ hk => by omega⟩
    | succ i ih =>
      intro hi t
      obtain ⟨o, ho⟩ := getop i (by omega)
      obtain ⟨ih1, ih2⟩ := ih (by omega) t
      have hn := (hstep i o ho).2.1 t
      constructor
      · intro h
        rw [hn]
        have h0 := h i o ho (by omega)
        have : lk t (putE (E i) o.dst (V i)) = lk t (E i) := by
          cases hd' : o.dst with
          | none => rfl
          | some d =>
            simp only [putE, lk]
            cases hb : Nat.beq d t with
            | false => rfl
            | true => rw [hd', Nat.eq_of_beq_eq_true hb] at h0; exact absurd rfl h0
        rw [this]
        exact ih1 fun k o' hk hlt => h k o' hk (by omega)
      · intro k o' hk hlt hdst
        rw [hn]
        rcases Nat.lt_or_ge k i with hki | hki
        · have h0 := hf.dst i k o o' t ho hk (by omega) hdst
          have : lk t (putE (E i) o.dst (V i)) = lk t (E i) := by
            cases hd' : o.dst with
            | none => rfl
            | some d =>
              simp only [putE, lk]
              cases hb : Nat.beq d t with
              | false => rfl
              | true => rw [hd', Nat.eq_of_beq_eq_true hb] at h0; exact absurd rfl h0
          rw [this]; exact ih2 k o' hk hki hdst
        · have : k = i := by omega
          subst this
          rw [ho] at hk; simp only [Option.some.injEq] at hk; subst hk
          rw [hdst]
          simp [putE, lk]
  -- all are listed
  have fin : ∀ listed a w, Mid P C ops nt M V e0 ρ0 w0 listed a w → (∀ k, k < ops.size → Has listed k) → Q .normal a w := by
    intro listed a w hm hall
    obtain ⟨ρ', e', j, hj, h1, h2, h3, h4, h5⟩ := hm.ex
    have hM : M j = M ops.size := still _ (Nat.le_refl _) j hj fun k o hk hjk _ => by
      cases hb : effB o.op with
      | false => rfl
      | true => exact absurd ((h1 k o hk hb).1 (hall k (ltop hk))) (by omega)
    rw [hM] at h2 h3
    refine hK e' ρ' a w (fun t => ?_) h2 h3
    obtain ⟨e1, e2⟩ := env ops.size (Nat.le_refl _) t
    by_cases hx : ∃ (k : Nat) (o : Oper), ops.toList[k]? = some o ∧ o.dst = some t
    · obtain ⟨k, o, hk, hdst⟩ := hx
      rw [h5 k o t hk (hall k (ltop hk)) hdst, e2 k o hk (ltop hk) hdst]
    · rw [h4 t fun k o hk _ hdst => hx ⟨k, o, hk, hdst⟩, e1 fun k o hk _ hdst => hx ⟨k, o, hk, hdst⟩]
  have allof : ∀ listed a w, Mid P C ops nt M V e0 ρ0 w0 listed a w → Region.ready .any ops listed = [] → ∀ k, k < ops.size → Has listed k := by
    intro listed a w hm hr k
    induction k using Nat.strongRecOn with
    | _ k ih =>
      intro hk
      apply Classical.byContradiction
      intro hno
      obtain ⟨o, ho⟩ := getop k hk
      have : k ∈ Region.ready .any ops listed := by
        refine mem_ready.2 ⟨not_has' (by rw [hm.size]; exact hk) hno, o, by rw [← Array.getElem?_toList]; exact ho, fun ed hed hb => ?_⟩
        have hp : ed.on ∈ preOf o := List.mem_filterMap.2 ⟨ed, Array.mem_toList_iff.2 hed, by simp [hb]⟩
        have hlt := hf.low k o ho _ hp
        exact ih ed.on hlt (by omega)
      rw [hr] at this; cases this
  -- one operation
  have one : ∀ listed a w i, Mid P C ops nt M V e0 ρ0 w0 listed a w → i ∈ Region.ready .any ops listed → ∀ next : Act → World → Prop,
      (∀ a' w', Mid P C ops nt M V e0 ρ0 w0 (listed.setIfInBounds i true) a' w' → next a' w') → wpOp P ops Q i next a w := by
    intro listed a w i hm hi next hnext
    obtain ⟨hun, o, ho', hpre'⟩ := mem_ready.1 hi
    obtain ⟨hisz, hno⟩ := not_has hun
    have ho : ops.toList[i]? = some o := by rw [Array.getElem?_toList]; exact ho'
    have hpre : ∀ k ∈ preOf o, Has listed k := by
      intro k hk
      obtain ⟨ed, hed, hb⟩ := List.mem_filterMap.1 hk
      cases hbb : Region.binds .any ed with
      | false => rw [hbb] at hb; simp at hb
      | true =>
        rw [hbb] at hb; simp only [cond_true, Option.some.injEq] at hb; subst hb
        exact hpre' ed (Array.mem_toList_iff.1 hed) hbb
    have hclo := clo_has hf hm.closed i o ho hpre
    obtain ⟨ρ', e', j, hj, h1, h2, h3, h4, h5⟩ := hm.ex
    have hilt := ltop ho
    have reads : ∀ t ∈ readsO ops.toList o, lk t e' = lk t (E i) := by
      intro t ht
      obtain ⟨e1, e2⟩ := env i (by omega) t
      by_cases hx : ∃ (k : Nat) (o' : Oper), ops.toList[k]? = some o' ∧ o'.dst = some t ∧ k ≠ i
      · obtain ⟨k, o', hk, hdst, hne⟩ := hx
        rcases hf.reads i k o o' t ho hk (Ne.symm hne) hdst ht with hp | hp
        · rw [h5 k o' t hk (hpre k hp) hdst, e2 k o' hk (hf.low i o ho k hp) hdst]
        · have hlow := hf.low k o' hk i hp
          have hnl : ¬ Has listed k := fun hl => hno (hm.closed k o' hk hl i hp)
          have only : ∀ k' o'', ops.toList[k']? = some o'' → o''.dst = some t → k' = k := fun k' o'' hk' hd' => by
            apply Classical.byContradiction
            intro hne'
            exact hf.dst k' k o'' o' t hk' hk hne' hdst hd'
          rw [h4 t fun k' o'' hk' hl hd' => hnl (only k' o'' hk' hd' ▸ hl), e1 fun k' o'' hk' hlt hd' => by have := only k' o'' hk' hd'; omega]
      · rw [h4 t fun k o' hk hl hdst => by
            by_cases hki : k = i
            · subst hki; exact hno hl
            · exact hx ⟨k, o', hk, hdst, hki⟩, e1 fun k o' hk hlt hdst => hx ⟨k, o', hk, hdst, by omega⟩]
    have hdo : ∀ x, o.dst = some x → x < nt := by
      intro x hx
      have := hd o (List.mem_of_getElem? ho)
      simpa [dok, hx] using this
    -- where an operation that may change the memory comes up, the memory is its own
    have effj : effB o.op = true → (∀ k ok, ops.toList[k]? = some ok → effB ok.op = true → (Has listed k ↔ k < i)) := by
      intro hb k ok hk hbk
      constructor
      · intro hl
        apply Classical.byContradiction
        intro hge
        rcases Nat.lt_or_ge i k with hik | hik
        · have := hf.eff k i ok o hk ho hbk hb hik
          exact hno (clo_has hf hm.closed k ok hk (hm.closed k ok hk hl) i this)
        · have : k = i := by omega
          subst this; exact hno hl
      · intro hlt
        exact hclo k (hf.eff i k o ok ho hk hb hbk hlt)
    have sameM : ∀ j', j' ≤ ops.size → (∀ k ok, ops.toList[k]? = some ok → effB ok.op = true → (Has listed k ↔ k < j')) → M j = M j' := by
      intro j' hj' hh
      rcases Nat.le_total j j' with hle | hle
      · exact still j' hj' j hle fun k ok hk a1 a2 => by
          cases hb : effB ok.op with
          | false => rfl
          | true => exact absurd ((h1 k ok hk hb).1 ((hh k ok hk hb).2 a2)) (by omega)
      · exact (still j hj j' hle fun k ok hk a1 a2 => by
          cases hb : effB ok.op with
          | false => rfl
          | true => exact absurd ((hh k ok hk hb).1 ((h1 k ok hk hb).2 a2)) (by omega)).symm
    have mid : ∀ a' w' ρ2 e2 j2, j2 ≤ ops.size → (∀ k ok, ops.toList[k]? = some ok → effB ok.op = true → ((k = i ∨ Has listed k) ↔ k < j2)) → Fr P C.T nt ρ2 e2 (M j2) a' w' → Evo ρ0 (M 0) w0 ρ2 (M j2) w' →
        (e2 = putE e' o.dst (V i)) → Mid P C ops nt M V e0 ρ0 w0 (listed.setIfInBounds i true) a' w' := by
      intro a' w' ρ2 e2 j2 hj2 a1 a2 a3 a4
      subst a4
      refine ⟨by simp [hm.size], ?_, ρ2, _, j2, hj2, ?_, a2, a3, ?_, ?_⟩
      · intro k ok hk hl p hp
        rw [has_set hisz] at hl ⊢
        rcases hl with rfl | hl
        · rw [ho] at hk; simp only [Option.some.injEq] at hk; subst hk
          exact .inr (hpre p hp)
        · exact .inr (hm.closed k ok hk hl p hp)
      · intro k ok hk hb; rw [has_set hisz]; exact a1 k ok hk hb
      · intro t ht
        have h0 := ht i o ho ((has_set hisz).2 (.inl rfl))
        have : lk t (putE e' o.dst (V i)) = lk t e' := by
          cases hd' : o.dst with
          | none => rfl
          | some d =>
            simp only [putE, lk]
            cases hb : Nat.beq d t with
            | false => rfl
            | true => rw [hd', Nat.eq_of_beq_eq_true hb] at h0; exact absurd rfl h0
        rw [this]
        exact h4 t fun k ok hk hl => ht k ok hk ((has_set hisz).2 (.inr hl))
      · intro k ok t hk hl hdst
        by_cases hki : k = i
        · subst hki
          rw [ho] at hk; simp only [Option.some.injEq] at hk; subst hk
          rw [hdst]; simp [putE, lk]
        · have hl' : Has listed k := by rcases (has_set hisz).1 hl with h | h; exact absurd h hki; exact h
          have h0 := hf.dst i k o ok t ho hk (Ne.symm hki) hdst
          have : lk t (putE e' o.dst (V i)) = lk t e' := by
            cases hd' : o.dst with
            | none => rfl
            | some d =>
              simp only [putE, lk]
              cases hb : Nat.beq d t with
              | false => rfl
              | true => rw [hd', Nat.eq_of_beq_eq_true hb] at h0; exact absurd rfl h0
          rw [this]; exact h5 k ok t hk hl' hdst
    have jeff : effB o.op = true → ∀ k ok, ops.toList[k]? = some ok → effB ok.op = true → ((k = i ∨ Has listed k) ↔ k < i + 1) := by
      intro hb k ok hk hbk
      rw [effj hb k ok hk hbk]; omega
    have jstill : effB o.op = false → ∀ k ok, ops.toList[k]? = some ok → effB ok.op = true → ((k = i ∨ Has listed k) ↔ k < j) := by
      intro hb k ok hk hbk
      rw [h1 k ok hk hbk]
      have : k ≠ i := by rintro rfl; rw [ho] at hk; simp only [Option.some.injEq] at hk; subst hk; rw [hb] at hbk; cases hbk
      omega
    unfold wpOp
    rw [ho']
    simp only
    rcases (hstep i o ho).1 with ⟨hruns, hop⟩ | ⟨hskips, hv, hm'⟩
    · have hw : Region.wanted o (yielded ops a.tmps) = true := by
        rcases hruns with hg | ⟨g, want, s, hg, hs, hl⟩
        · simp [Region.wanted, hg]
        · rw [← reads s (slot_reads hg hs)] at hl
          have hy := yielded_of h2 hs hl
          simp only at hy
          simp [Region.wanted, hg, hy]
      rw [if_pos hw]
      refine .inl ?_
      have hop' : ∀ K' : Value → Mem → Option R, oper C o.op e' (M i) K' = K' (V i) (M (i + 1)) := fun K' => by
        rw [oper_env (opnd_reads reads)]; exact hop K'
      cases hb : effB o.op with
      | true =>
        have hMj : M j = M i := sameM i (by omega) (effj hb)
        rw [hMj] at h2 h3
        refine oper_wp (r := r0) (K := fun v m => if v = V i ∧ m = M (i + 1) then some r0 else none) hcall h2.st (by rw [hop']; simp) ?_
        intro v m' v' w' ρ2 b1 b2 b3 b4
        replace b1 := ite_some b1
        obtain ⟨rfl, rfl⟩ := b1
        exact hnext _ _ (mid _ _ ρ2 _ (i + 1) (by omega) (jeff hb) (h2.put hdo b2 b3 b4) (h3.trans b4) rfl)
      | false =>
        have hMi := still1 i o ho hb
        have hrun : ∀ K' : Value → Mem → Option R, oper C o.op e' (M j) K' = K' (V i) (M j) := by
          intro K'
          cases hlb : loadB o.op with
          | false => rw [oper_pure (m := M i) hb hlb (hpc o (List.mem_of_getElem? ho)), hop']
          | true =>
            have hload : ∃ t x, o.op = .load t x := by
              cases hh : o.op <;> simp [hh, loadB] at hlb
              exact ⟨_, _, rfl⟩
            obtain ⟨t, x, hox⟩ := hload
            rw [hox] at hop' ⊢
            have h6 := hop' (fun _ _ => some r0)
            simp only [oper] at h6
            split at h6
            · rename_i ad hx
              have hld : ∀ K' : Value → Option R, ldT C.T t (M i) ad K' = K' (V i) := fun K' => by
                have := hop' fun v _ => K' v
                simpa only [oper, hx] using this
              simp only [oper, hx]
              have hmem : ⟨i, t, ad, V i⟩ ∈ ls' := (hstep i o ho).2.2 t x ad hox hruns (by rw [← opnd_reads reads x (by rw [hox]; simp [Op.operands])]; exact hx)
              -- the least number of operations with this memory
              have hcan : ∃ j0, j0 ≤ j ∧ canB ops.toList j0 = true ∧ ∀ k ok, ops.toList[k]? = some ok → j0 ≤ k → k < j → effB ok.op = false := by
                clear h1 h2 h3 sameM jstill mid
                induction j with
                | zero => exact ⟨0, Nat.le_refl _, rfl, fun k ok _ _ hk => by omega⟩
                | succ j ih =>
                  obtain ⟨oj, hoj⟩ := getop j (by omega)
                  cases hbj : effB oj.op with
                  | true => exact ⟨j + 1, Nat.le_refl _, by simp only [canB, hoj, hbj], fun k ok _ _ hk => by omega⟩
                  | false =>
                    obtain ⟨j0, a1, a2, a3⟩ := ih (by omega)
                    refine ⟨j0, by omega, a2, fun k ok hk b1 b2 => ?_⟩
                    rcases Nat.lt_or_ge k j with hkj | hkj
                    · exact a3 k ok hk b1 hkj
                    · have : k = j := by omega
                      subst this; rw [hoj] at hk; simp only [Option.some.injEq] at hk; subst hk; exact hbj
              obtain ⟨j0, c1, c2, c3⟩ := hcan
              have hMj0 : M j0 = M j := still j hj j0 c1 c3
              rw [← hMj0]
              cases hap : apartB ops.toList i j0 with
              | true =>
                refine hchk _ hmem (M j0) ?_ _
                unfold memsOf
                rw [List.mem_filterMap]
                refine ⟨j0, by simp; omega, ?_⟩
                have hmay : mayB ops.toList cs i j0 = true := by
                  refine allI_mk fun k ok hk => ?_
                  rw [Nat.zero_add]
                  cases hbk : effB ok.op with
                  | false => rfl
                  | true =>
                    have h7 := h1 k ok hk hbk
                    simp only [Bool.not_true, Bool.false_or, Bool.and_eq_true, Bool.or_eq_true, Bool.not_eq_true']
                    constructor
                    · by_cases hk1 : k ∈ cs.getD i []
                      · right
                        rw [ordB_iff]
                        have h8 := h7.1 (hclo k hk1)
                        apply Classical.byContradiction
                        intro h9
                        have := c3 k ok hk (by omega) h8
                        rw [hbk] at this; cases this
                      · left
                        cases hh : hasN (cs.getD i []) k with
                        | false => rfl
                        | true => exact absurd (hasN_iff.1 hh) hk1
                    · by_cases hk1 : i ∈ cs.getD k []
                      · right
                        rw [Nat.ble_eq]
                        have h8 : ¬ Has listed k := fun hl => hno (clo_has hf hm.closed k ok hk (hm.closed k ok hk hl) i hk1)
                        rw [h7] at h8; omega
                      · left
                        cases hh : hasN (cs.getD k []) i with
                        | false => rfl
                        | true => exact absurd (hasN_iff.1 hh) hk1
                rw [hmay, c2, hap]
                simp only [Bool.and_self, cond_true]
                rw [List.getElem?_map, List.getElem?_range (by omega)]
                rfl
              | false =>
                have hno' : ∀ k ok, ops.toList[k]? = some ok → effB ok.op = true → ¬ ((i ≤ k ∧ k < j0) ∨ (j0 ≤ k ∧ k < i)) := by
                  unfold apartB at hap
                  rw [Bool.not_eq_false'] at hap
                  intro k ok hk hbk hh
                  have h9 := allI_spec hap k ok hk
                  rw [Nat.zero_add, hbk] at h9
                  simp only [Bool.not_true, Bool.false_or, Bool.not_eq_true', Bool.or_eq_false_iff, Bool.and_eq_false_iff] at h9
                  rcases hh with ⟨d1, d2⟩ | ⟨d1, d2⟩
                  · rcases h9.1 with h10 | h10
                    · rw [Nat.ble_eq_true_of_le d1] at h10; cases h10
                    · rw [ordB_iff.2 d2] at h10; cases h10
                  · rcases h9.2 with h10 | h10
                    · rw [Nat.ble_eq_true_of_le d1] at h10; cases h10
                    · rw [ordB_iff.2 d2] at h10; cases h10
                have : M j0 = M i := by
                  rcases Nat.le_total j0 i with hle | hle
                  · exact still i (by omega) j0 hle fun k ok hk d1 d2 => by
                      cases hbk : effB ok.op with
                      | false => rfl
                      | true => exact absurd (.inr ⟨d1, d2⟩) (hno' k ok hk hbk)
                  · exact (still j0 (by omega) i hle fun k ok hk d1 d2 => by
                      cases hbk : effB ok.op with
                      | false => rfl
                      | true => exact absurd (.inl ⟨d1, d2⟩) (hno' k ok hk hbk)).symm
                rw [this, hld]
            · cases h6
        refine oper_wp (r := r0) (K := fun v m => if v = V i ∧ m = M j then some r0 else none) hcall h2.st (by rw [hrun]; simp) ?_
        intro v m' v' w' ρ2 b1 b2 b3 b4
        replace b1 := ite_some b1
        obtain ⟨rfl, rfl⟩ := b1
        exact hnext _ _ (mid _ _ ρ2 _ j hj (jstill hb) (h2.put hdo b2 b3 b4) (h3.trans b4) rfl)
    · have hw : Region.wanted o (yielded ops a.tmps) = false := by
        obtain ⟨g, want, s, hg, hs, hl⟩ := hskips
        rcases hl with ⟨t, hl, hne⟩ | ⟨cs', hl⟩
        · rw [← reads s (slot_reads hg hs)] at hl
          have hy := yielded_of h2 hs hl
          simp only at hy
          simp [Region.wanted, hg, hy, hne]
        · rw [← reads s (slot_reads hg hs)] at hl
          have hy := yielded_of h2 hs hl
          simp [Region.wanted, hg, hy]
      rw [if_neg (by rw [hw]; simp)]
      refine hnext _ _ ?_
      have hput : Fr P C.T nt ρ' (putE e' o.dst (V i)) (M j) (a.put o.dst undef) w := h2.put hdo (by rw [hv]; exact .tuple [] [] rfl (by simp)) h2.st.mem (Evo.refl _ _ _)
      cases hb : effB o.op with
      | true =>
        have hMj : M j = M (i + 1) := by rw [hm']; exact sameM i (by omega) (effj hb)
        rw [hMj] at hput h3
        exact mid _ _ ρ' _ (i + 1) (by omega) (jeff hb) hput h3 rfl
      | false => exact mid _ _ ρ' _ j hj (jstill hb) hput h3 rfl
  intro fuel
  induction fuel with
  | zero =>
    intro listed a w hm hc
    have hall : ∀ k, k < ops.size → Has listed k := by
      intro k hk
      have h0 := List.countP_eq_zero.1 (Nat.le_zero.1 hc) k (List.mem_range.2 hk)
      simpa [Has] using h0
    refine ⟨?_, fin listed a w hm hall⟩
    refine List.eq_nil_iff_forall_not_mem.2 fun k hk => ?_
    obtain ⟨hun, o, ho, _⟩ := mem_ready.1 hk
    obtain ⟨hsz, hno⟩ := not_has hun
    exact hno (hall k (by rw [← hm.size]; exact hsz))
  | succ fuel ih =>
    intro listed a w hm hc
    refine ⟨fun h0 => fin listed a w hm (allof listed a w hm h0), fun i hi => ?_⟩
    refine one listed a w i hm hi _ fun a' w' hm' => ih _ a' w' hm' ?_
    obtain ⟨hun, o, ho, _⟩ := mem_ready.1 hi
    obtain ⟨hsz, hno⟩ := not_has hun
    have : (List.range ops.size).countP (fun k => !((listed.setIfInBounds i true).getD k false)) < (List.range ops.size).countP (fun k => !(listed.getD k false)) := by
      refine countP_lt (i := i) (fun k hk hh => ?_) (List.mem_range.2 (by rw [← hm.size]; exact hsz)) ?_ ?_
      · cases h9 : listed.getD k false with
        | false => rfl
        | true =>
          have := (has_set (k := k) hsz).2 (.inr h9)
          unfold Has at this
          rw [this] at hh; cases hh
      · unfold Has at hno
        cases h9 : listed.getD i false with
        | false => rfl
        | true => exact absurd h9 hno
      · have := (has_set (k := i) hsz).2 (.inl rfl)
        unfold Has at this
        rw [this]; rfl
    omega
end

theorem region_draw (hmix : P.follows .mixedOrders = true) (hcall : CallOk P C.call) {ops : Array Oper} {nt : Nat} {id : Nat} {Q : Exit → Act → World → Prop} {K : Env → Mem → Option R} {e : Env} {m : Mem} {ρ : Rn} {a : Act} {w : World}
    (hd : ∀ o ∈ ops.toList, dok nt o = true) (hf : Fr P C.T nt ρ e m a w) (h : regX C ops.toList e m K = some r)
    (hK : ∀ e' m' ρ' a' w', K e' m' = some r → Fr P C.T nt ρ' e' m' a' w' → Evo ρ m w ρ' m' w' → Q .normal a' w') : (Code.region id ops true).wp P Q a w := by
  unfold regX at h
  cases hok : drawOk ops.toList (cloOf ops.toList []) && ops.toList.all (fun o => pureConv C.T o.op) with
  | false => rw [hok] at h; cases h
  | true =>
    rw [hok] at h
    simp only [cond_true] at h
    simp only [Bool.and_eq_true] at hok
    obtain ⟨E, M, V, eN, ls', h1, h2, h3, h4, h5, h6⟩ := drawX_trace hcall.det _ _ _ _ _ _ h
    simp only [Nat.zero_add] at h2 h3 h4 h6
    obtain ⟨h7, h8⟩ := chkL_spec h6
    subst h2
    have hlen : ops.toList.length = ops.size := by simp
    rw [hlen] at h4 h7
    refine wp_region_any hmix ?_
    refine region_any (e0 := e) (w0 := { w with drawn := w.drawn + 1 }) (ρ0 := ρ) (ls' := ls') hcall (drawOk_fine hok.1) hd (fun o ho => List.all_eq_true.1 hok.2 o ho) h1 h3 ?_ ?_ ⟨r⟩ _ _ _ _ ?_ ?_
    · intro l hl mm hmm
      refine h8 l hl mm ?_
      have : [M 0] ++ (List.range ops.toList.length).map (fun j => M (j + 1)) = (List.range (ops.size + 1)).map M := by
        rw [hlen, List.range_succ_eq_map, List.map_cons, List.map_map]; rfl
      rw [this]; exact hmm
    · intro e' ρ' a' w' he hfr hev
      exact hK eN (M ops.size) ρ' a' w' h7 (hfr.ext fun t => by rw [h4 t, he t]) ⟨hev.agree, hev.len, hev.size, hev.frame, hev.fresh, hev.tape, hev.os, hev.out⟩
    · refine ⟨by simp, fun i o ho hl => ?_, ρ, e, 0, Nat.zero_le _, fun k o hk _ => ?_, ⟨⟨hf.st.tok, hf.st.env, (hf.st.mem.drawn (w' := { w with drawn := w.drawn + 1 }) rfl rfl rfl rfl).1⟩, hf.size, hf.defers⟩, Evo.refl _ _ _, fun t _ => rfl, fun k o t hk hl => ?_⟩
      · unfold Has at hl; simp [Array.getElem?_replicate] at hl; split at hl <;> simp at hl
      · constructor
        · intro hl; unfold Has at hl; simp [Array.getElem?_replicate] at hl; split at hl <;> simp at hl
        · intro hl; omega
      · unfold Has at hl; simp [Array.getElem?_replicate] at hl; split at hl <;> simp at hl
    · exact Nat.le_trans List.countP_le_length (by simp)
end
end Go.Mx
