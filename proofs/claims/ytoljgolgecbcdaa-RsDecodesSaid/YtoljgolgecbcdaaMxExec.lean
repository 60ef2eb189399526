/- The clean memory against the model: statements, loops, functions. -/
import Derived.Test.YtoljgolgecbcdaaMxDraw
import Derived.Scope
set_option linter.unusedVariables false
set_option linter.unusedSimpArgs false
namespace Go.Mx

section
variable {P : Program} {R : Type} {C : Ctx R} {r : R}

/-! ## statements -/
def exOf : Nat → Exit
  | 0 => .ret
  | 1 => .normal
  | n + 2 => .exit n

def dokC (nt : Nat) : Code → Bool
  | .region _ os _ => os.toList.all (dok nt)
  | .seq a b => dokC nt a && dokC nt b
  | .cond _ a b => dokC nt a && dokC nt b
  | .block _ c => dokC nt c
  | .loop c => dokC nt c
  | .scope c => dokC nt c
  | _ => true

/-- a loop is what C says: a row of functions, one for each number of rounds that may still be gone -/
def LoopOk (C : Ctx R) (cur : Nat) (c : Code) : Prop := ∃ ls, lk cur C.heads = some ls ∧ ∀ (K : Nat → List Value → Mem → Option R) r, ∃ Lp : Nat → List Value → Mem → Option R,
  (∀ vs m, C.loop cur vs m K = some r → ∃ n, Lp n vs m = some r) ∧
  ∀ n vs m, Lp n vs m = some r → ∃ n', n = n' + 1 ∧ exec C cur c (ls.zip vs) m (goOn ls C.outs (Lp n') K) = some r

/-- what holds where a piece of code is left -/
def Out (P : Program) (T : TT) (nt : Nat) (ρ : Rn) (m : Mem) (w : World) (K : KX R) (r : R) : Exit → Act → World → Prop := fun ex a' w' =>
  ∃ x e' m' ρ', ex = exOf x ∧ K x e' m' = some r ∧ Fr P T nt ρ' e' m' a' w' ∧ Evo ρ m w ρ' m' w'

theorem wp_loop_n {c : Code} {Q : Exit → Act → World → Prop} (I : Nat → Act → World → Prop)
    (round : ∀ n a w, I n a w → c.wp P (Exit.then (fun a' w' => ∃ n', n' < n ∧ I n' a' w') Q) a w) {n : Nat} {a : Act} {w : World} (h0 : I n a w) : (Code.loop c).wp P Q a w := by
  intro b k cs
  have key : ∀ n a w, I n a w → ∃ e a' w', Q e a' w' ∧ Arrives P (lone (b.at a (.code c :: .inLoop c :: k)) cs w) b k cs e a' w' := by
    intro n
    induction n using Nat.strongRecOn with
    | _ n ih =>
      intro a w hI
      obtain ⟨e, a₁, w₁, hq, harr⟩ := round n a w hI b (.inLoop c :: k) cs
      cases e with
      | normal =>
        obtain ⟨n', hlt, hI₁⟩ := hq
        obtain ⟨e₂, a₂, w₂, hq₂, harr₂⟩ := ih n' hlt a₁ w₁ hI₁
        exact ⟨e₂, a₂, w₂, hq₂, .of_steps (Steps.trans harr (.one step_inLoop)) harr₂⟩
      | exit id => exact ⟨_, a₁, w₁, hq, .pass (x := .inLoop c) rfl (fun _ _ => .inl (by simp)) harr⟩
      | goto l => exact ⟨_, a₁, w₁, hq, .pass (x := .inLoop c) rfl (fun _ _ => .inl (by simp)) harr⟩
      | ret => exact ⟨_, a₁, w₁, hq, .pass (x := .inLoop c) rfl (fun _ _ => .inl (by simp)) harr⟩
      | panic ch => exact ⟨_, a₁, w₁, hq, .pass (x := .inLoop c) rfl (fun _ _ => .inl (by simp)) harr⟩
      | outgrown => exact ⟨_, a₁, w₁, hq, .pass (x := .inLoop c) rfl (fun _ _ => .inl (by simp)) harr⟩
  obtain ⟨e, a', w', hq, harr⟩ := key n a w h0
  exact ⟨e, a', w', hq, .of_steps (.one step_loop) harr⟩

theorem getAll_env {ρ L tmps} {e : Env} (he : EnvR ρ L e tmps) : ∀ {ls : List Nat} {vs : List Value}, getAll e ls = some vs → EnvR ρ L (ls.zip vs) tmps
  | [], vs, h => by intro t v ht; simp [lk] at ht
  | l :: ls, vs, h => by
    simp only [getAll] at h
    split at h
    · rename_i v vs' h1 h2
      simp at h; subst h
      intro t u ht
      simp only [List.zip_cons_cons, lk] at ht
      cases hb : Nat.beq l t with
      | true =>
        rw [hb] at ht
        simp at ht; subst ht
        have := Nat.eq_of_beq_eq_true hb
        subst this
        exact he _ _ h1
      | false => rw [hb] at ht; exact getAll_env he h2 t u (by simpa using ht)
    · simp at h

theorem Fr.zip {T nt ρ e m a w ls vs} (h : Fr P T nt ρ e m a w) (hg : getAll e ls = some vs) : Fr P T nt ρ (ls.zip vs) m a w :=
  ⟨⟨h.st.tok, getAll_env h.st.env hg, h.st.mem⟩, h.size, h.defers⟩

theorem exec_sound (hmix : P.follows .mixedOrders = true) (hcall : CallOk P C.call) {nt : Nat} : ∀ (c : Code) (cur : Nat) (e : Env) (m : Mem) (K : KX R) (ρ : Rn) (a : Act) (w : World), dokC nt c = true → (∀ p ∈ loopsOf cur c, LoopOk C p.1 p.2) → Fr P C.T nt ρ e m a w →
    exec C cur c e m K = some r → c.wp P (Out P C.T nt ρ m w K r) a w
  | .skip, cur, e, m, K, ρ, a, w, hd, hl, hf, h => wp_skip ⟨1, e, m, ρ, rfl, h, hf, Evo.refl _ _ _⟩
  | .label _, cur, e, m, K, ρ, a, w, hd, hl, hf, h => wp_label ⟨1, e, m, ρ, rfl, h, hf, Evo.refl _ _ _⟩
  | .ret, cur, e, m, K, ρ, a, w, hd, hl, hf, h => wp_ret ⟨0, e, m, ρ, rfl, h, hf, Evo.refl _ _ _⟩
  | .exit id, cur, e, m, K, ρ, a, w, hd, hl, hf, h => wp_exit ⟨id + 2, e, m, ρ, rfl, h, hf, Evo.refl _ _ _⟩
  | .goto _, cur, e, m, K, ρ, a, w, hd, hl, hf, h => by simp [exec] at h
  | .refuse _, cur, e, m, K, ρ, a, w, hd, hl, hf, h => by simp [exec] at h
  | .rangeFunc .., cur, e, m, K, ρ, a, w, hd, hl, hf, h => by simp [exec] at h
  | .region id os draw, cur, e, m, K, ρ, a, w, hd, hl, hf, h => by
    cases draw with
    | true =>
      simp only [exec, cond_true] at h
      simp only [dokC, List.all_eq_true] at hd
      exact region_draw hmix hcall hd hf h fun e' m' ρ' a' w' h1 h2 h3 => ⟨1, e', m', ρ', rfl, h1, h2, h3⟩
    | false =>
      simp only [exec, cond_false] at h
      refine wp_region_list ?_
      simp only [dokC, List.all_eq_true] at hd
      exact opsX_sound hcall os.toList e m ρ a w hd hf h fun e' m' ρ' a' w' h1 h2 h3 => ⟨1, e', m', ρ', rfl, h1, h2, h3⟩
  | .scope c, cur, e, m, K, ρ, a, w, hd, hl, hf, h => by
    refine wp_scope_straight ?_
    refine Code.wp_mono ?_ (exec_sound hmix hcall c cur e m K ρ a w hd hl hf h)
    intro ex a' w' hq
    cases ex <;> first | exact hq | (obtain ⟨x, _, _, _, h1, _⟩ := hq; exfalso; match x, h1 with | 0, h1 => simp [exOf] at h1 | 1, h1 => simp [exOf] at h1 | n + 2, h1 => simp [exOf] at h1)
  | .seq c d, cur, e, m, K, ρ, a, w, hd, hl, hf, h => by
    simp only [exec] at h
    simp only [dokC, Bool.and_eq_true] at hd
    refine wp_seq ?_
    refine Code.wp_mono ?_ (exec_sound hmix hcall c cur e m _ ρ a w hd.1 (fun p hp => hl p (by simp [loopsOf, hp])) hf h)
    rintro ex a' w' ⟨x, e', m', ρ', h1, h2, h3, h4⟩
    match x, h1, h2 with
    | 1, h1, h2 =>
      subst h1
      refine Code.wp_mono ?_ (exec_sound hmix hcall d cur e' m' K ρ' a' w' hd.2 (fun p hp => hl p (by simp [loopsOf, hp])) h3 h2)
      rintro ex2 a2 w2 ⟨x2, e2, m2, ρ2, b1, b2, b3, b4⟩
      exact ⟨x2, e2, m2, ρ2, b1, b2, b3, h4.trans b4⟩
    | 0, h1, h2 => subst h1; exact ⟨0, e', m', ρ', rfl, h2, h3, h4⟩
    | n + 2, h1, h2 => subst h1; exact ⟨n + 2, e', m', ρ', rfl, h2, h3, h4⟩
  | .cond x c d, cur, e, m, K, ρ, a, w, hd, hl, hf, h => by
    simp only [exec] at h
    simp only [dokC, Bool.and_eq_true] at hd
    split at h
    · rename_i t ht
      have hx := (opnd_sound hf.st.env ht).bool_inv
      refine wp_cond hx ?_
      cases t with
      | true => exact exec_sound hmix hcall c cur e m K ρ a w hd.1 (fun p hp => hl p (by simp [loopsOf, hp])) hf h
      | false => exact exec_sound hmix hcall d cur e m K ρ a w hd.2 (fun p hp => hl p (by simp [loopsOf, hp])) hf h
    · simp at h
  | .block id c, cur, e, m, K, ρ, a, w, hd, hl, hf, h => by
    simp only [exec] at h
    refine wp_block ?_
    refine Code.wp_mono ?_ (exec_sound hmix hcall c id e m _ ρ a w hd hl hf h)
    rintro ex a' w' ⟨x, e', m', ρ', h1, h2, h3, h4⟩
    match x, h1, h2 with
    | 0, h1, h2 => subst h1; exact ⟨0, e', m', ρ', rfl, h2, h3, h4⟩
    | 1, h1, h2 => subst h1; exact ⟨1, e', m', ρ', rfl, h2, h3, h4⟩
    | n + 2, h1, h2 =>
      subst h1
      simp only [exOf, Exit.inBlock]
      simp only at h2
      cases hb : Nat.beq (n + 2) (id + 2) with
      | true =>
        have : n = id := by have := Nat.eq_of_beq_eq_true hb; omega
        subst this
        rw [hb] at h2
        simp only [if_true]
        exact ⟨1, e', m', ρ', rfl, h2, h3, h4⟩
      | false =>
        have : n ≠ id := by
          intro h; subst h
          rw [show Nat.beq (n + 2) (n + 2) = true from Nat.beq_refl _] at hb; simp at hb
        rw [hb] at h2
        rw [if_neg this]
        exact ⟨n + 2, e', m', ρ', rfl, h2, h3, h4⟩
  | .loop c, cur, e, m, K, ρ, a, w, hd, hl, hf, h => by
    simp only [exec] at h
    split at h
    · rename_i ls hls
      split at h
      · rename_i vs hvs
        obtain ⟨ls', h1, h2⟩ := hl (cur, c) (by simp [loopsOf])
        simp only [hls, Option.some.injEq] at h1
        subst h1
        obtain ⟨Lp, hstart, hround⟩ := h2 (fun x vs' m' => match lk x C.outs with | some lx => K x (lx.zip vs') m' | none => none) r
        obtain ⟨n, h2⟩ := hstart _ _ h
        refine wp_loop_n (fun n a' w' => ∃ vs' m' ρ', Lp n vs' m' = some r ∧ Fr P C.T nt ρ' (ls.zip vs') m' a' w' ∧ Evo ρ m w ρ' m' w') ?_ (n := n) ⟨vs, m, ρ, h2, hf.zip hvs, Evo.refl _ _ _⟩
        rintro n a' w' ⟨vs', m', ρ', h3, h4, h5⟩
        obtain ⟨n', hn', h6⟩ := hround n vs' m' h3
        subst hn'
        refine Code.wp_mono ?_ (exec_sound hmix hcall c cur _ m' _ ρ' a' w' hd (fun p hp => hl p (by simp [loopsOf, hp])) h4 h6)
        rintro ex a2 w2 ⟨x, e2, m2, ρ2, b1, b2, b3, b4⟩
        have hout : ∀ (hx : x ≠ 1) (b2 : (match lk x C.outs with | some lx => (match getAll e2 lx with | some vs' => (match lk x C.outs with | some lx => K x (lx.zip vs') m2 | none => none) | none => none) | none => none) = some r), Out P C.T nt ρ m w K r (exOf x) a2 w2 := by
          intro hx b2
          split at b2
          · rename_i lx hlx
            split at b2
            · rename_i vs2 hvs2
              exact ⟨x, _, m2, ρ2, rfl, b2, b3.zip hvs2, h5.trans b4⟩
            · simp at b2
          · simp at b2
        match x, b1, b2, hout with
        | 1, b1, b2, _ =>
          subst b1
          simp only [goOn] at b2
          split at b2
          · rename_i vs2 hvs2
            exact ⟨n', Nat.lt_succ_self n', vs2, m2, ρ2, b2, b3.zip hvs2, h5.trans b4⟩
          · simp at b2
        | 0, b1, b2, hout => subst b1; exact hout (by simp) b2
        | k + 2, b1, b2, hout => subst b1; exact hout (by simp) b2
      · simp at h
    · simp at h

/-! ## functions -/
def resF (tmps : Array Value) : ResultVar → Sem Value
  | .tmp t => pure (tmps.getD t undef)
  | .cell a t => do loadVar t (← asAddr (tmps.getD a undef))

theorem resT_sound {T : TT} (hT : TOk P T) {ρ : Rn} {m : Mem} {w : World} {tmps : Array Value} {e : Env} (he : EnvR ρ m.length e tmps) (hm : MRep ρ m w) : ∀ (rs : List ResultVar) (K : List Value → Option R), resT T e m rs K = some r →
    ∃ vs vs', K vs = some r ∧ vs.length = vs'.length ∧ (∀ (i : Nat) v, vs[i]? = some v → ∃ v', vs'[i]? = some v' ∧ VR ρ m.length v v') ∧
      (rs.mapM (resF tmps)).run P w = .ok vs' w
  | [], K, h => ⟨[], [], h, rfl, by simp, by simp⟩
  | .tmp t :: rs, K, h => by
    simp only [resT] at h
    split at h
    · rename_i v hv
      obtain ⟨vs, vs', h1, h2, h3, h4⟩ := resT_sound hT he hm rs _ h
      refine ⟨v :: vs, tmps.getD t undef :: vs', h1, by simp [h2], ?_, ?_⟩
      · intro i u hi
        cases i with
        | zero => simp at hi; subst hi; exact ⟨_, rfl, (he t _ hv).2⟩
        | succ i => simp at hi; simpa using h3 i u hi
      · have e1 : (resF tmps (.tmp t)).run P w = .ok (tmps.getD t undef) w := rfl
        rw [List.mapM_cons]
        simp only [Sem.run_bind, Sem.run_pure, Result.andThen_ok, h4, e1]
    · simp at h
  | .cell ad t :: rs, K, h => by
    simp only [resT] at h
    split at h
    · rename_i b hb
      obtain ⟨v, v', h5, h6, h7⟩ := ldT_sound hT hm h
      obtain ⟨vs, vs', h1, h2, h3, h4⟩ := resT_sound hT he hm rs _ h5
      have hp := (he ad _ hb).2.ptr_inv.1
      refine ⟨v :: vs, v' :: vs', h1, by simp [h2], ?_, ?_⟩
      · intro i u hi
        cases i with
        | zero => simp at hi; subst hi; exact ⟨_, rfl, h6⟩
        | succ i => simp at hi; simpa using h3 i u hi
      · have e1 : (resF tmps (.cell ad t)).run P w = .ok v' w := by
          simp only [resF, Sem.run_bind, hp, asAddr, Sem.run_pure, Result.andThen_ok, h7]
        rw [List.mapM_cons]
        simp only [Sem.run_bind, Sem.run_pure, Result.andThen_ok, h4, e1]
    · simp at h

theorem results_sound {T : TT} (hT : TOk P T) {fn : Func} {ρ : Rn} {m : Mem} {w : World} {tmps : Array Value} {e : Env} (he : EnvR ρ m.length e tmps) (hm : MRep ρ m w) {K : Value → Option R}
    (h : resT T e m fn.results.toList (fun vs => K (oneOf vs)) = some r) : ∃ v v', K v = some r ∧ VR ρ m.length v v' ∧ (results fn tmps).run P w = .ok v' w := by
  obtain ⟨vs, vs', h1, h2, h3, h4⟩ := resT_sound hT he hm _ _ h
  have h5 : (results fn tmps).run P w = .ok (if h : (⟨vs'⟩ : Array Value).size = 1 then (⟨vs'⟩ : Array Value)[0] else .tuple ⟨vs'⟩) w := by
    have e1 : results fn tmps = (do
        let vs ← fn.results.mapM (resF tmps)
        pure (if h : vs.size = 1 then vs[0] else .tuple vs)) := rfl
    rw [e1, Array.mapM_eq_mapM_toList]
    simp only [Sem.run_bind, Sem.run_map, h4, Result.andThen_ok, Sem.run_pure]
  refine ⟨_, _, h1, ?_, h5⟩
  match vs, vs', h2, h3 with
  | [v], [v'], _, h3 =>
    obtain ⟨u, a1, a2⟩ := h3 0 v rfl
    simp at a1; subst a1
    exact a2
  | [], [], _, h3 => exact .tuple [] [] rfl (by simp)
  | x :: y :: vs, x' :: y' :: vs', h2, h3 =>
    refine .tuple _ _ h2 ?_
    intro i hi
    obtain ⟨u, a1, a2⟩ := h3 i _ (List.getElem?_eq_getElem hi)
    rw [getD_of_get? (List.getElem?_eq_getElem hi), getD_of_get? a1]
    exact a2

theorem paramsE_lk : ∀ (vs : List Value) (n t : Nat) (v : Value), lk t (paramsE n vs) = some v → n ≤ t ∧ vs[t - n]? = some v
  | [], n, t, v, h => by simp [paramsE, lk] at h
  | u :: vs, n, t, v, h => by
    simp only [paramsE, lk] at h
    cases hb : Nat.beq n t with
    | true =>
      rw [hb] at h
      have := Nat.eq_of_beq_eq_true hb
      subst this
      simp at h; subst h
      simp
    | false =>
      rw [hb] at h
      have hne : n ≠ t := by
        intro h; subst h
        rw [show Nat.beq n n = true from Nat.beq_refl n] at hb; simp at hb
      obtain ⟨h1, h2⟩ := paramsE_lk vs (n + 1) t v (by simpa using h)
      refine ⟨by omega, ?_⟩
      rw [show t - n = (t - (n + 1)) + 1 by omega]
      simpa using h2

theorem fn_sound {f : FuncId} {fn : Func} {c : Code} {vs : List Value} {m : Mem} {K : Value → Mem → Option R}
    (hT : TOk P C.T) (hmix : P.follows .mixedOrders = true) (hcall : CallOk P C.call) (hfn : P.funcs[f]? = some fn) (hb : fn.body = some c) (hname : (fn.name == "runtime.NumGoroutine") = false) (hd : dokC fn.ntmps c = true) (hargs : Nat.ble vs.length fn.ntmps = true)
    (hl : ∀ p ∈ loopsOf 0 c, LoopOk C p.1 p.2) (h : fnX C fn vs m K = some r) : CallP P f vs m fun v m' => K v m' = some r := by
  refine CallP.of_calls hfn hname (by rw [hb]; rfl) ?_
  intro ρ w args hm hlen hvr
  have hle := Nat.le_of_ble_eq_true hargs
  refine calls_of_wp hfn hb ?_
  have hsize : ((⟨args⟩ : Array Value) ++ Array.replicate (fn.ntmps - (⟨args⟩ : Array Value).size) undef).size = fn.ntmps := by
    simp; omega
  have hfr : Fr P C.T fn.ntmps ρ (paramsE 0 vs) m { tmps := (⟨args⟩ : Array Value) ++ Array.replicate (fn.ntmps - (⟨args⟩ : Array Value).size) undef, defers := [] } w := by
    refine ⟨⟨hT, ?_, hm⟩, hsize, rfl⟩
    intro t v ht
    obtain ⟨_, h2⟩ := paramsE_lk vs 0 t v ht
    rw [Nat.sub_zero] at h2
    obtain ⟨v', h3, h4⟩ := hvr t v h2
    have hlt : t < args.length := by
      rcases Nat.lt_or_ge t args.length with h | h
      · exact h
      · simp [List.getElem?_eq_none h] at h3
    refine ⟨by rw [hsize]; omega, ?_⟩
    have : ((⟨args⟩ : Array Value) ++ Array.replicate (fn.ntmps - (⟨args⟩ : Array Value).size) undef).getD t undef = v' := by
      have h5 : args[t] = v' := by rw [List.getElem?_eq_getElem hlt] at h3; simpa using h3
      rw [Array.getD, dif_pos (by rw [hsize]; omega)]
      simp only [Array.getInternal_eq_getElem]
      rw [Array.getElem_append_left (by simpa using hlt)]
      simpa using h5
    rw [this]; exact h4
  unfold fnX body at h
  rw [hb] at h
  refine Code.wp_mono ?_ (exec_sound hmix hcall c 0 _ m _ ρ _ w hd hl hfr h)
  rintro ex a' w' ⟨x, e', m', ρ', rfl, h2, h3, h4⟩
  have fin : resT C.T e' m' fn.results.toList (fun vs => K (oneOf vs) m') = some r → a'.defers = [] ∧ ∃ v, (results fn a'.tmps).run P w' = .ok v w' ∧ ∃ v0 m0 v' ρ'', Ending.returned v = .returned v' ∧ K v0 m0 = some r ∧ VR ρ'' m0.length v0 v' ∧ MRep ρ'' m0 w' ∧ Evo ρ m w ρ'' m0 w' := by
    intro h5
    obtain ⟨v, v', b1, b2, b3⟩ := results_sound (fn := fn) hT h3.st.env h3.st.mem (K := fun v => K v m') h5
    exact ⟨h3.defers, v', b3, v, m', v', ρ', rfl, b1, b2, h3.st.mem, h4⟩
  match x, h2 with
  | 0, h2 => exact fin h2
  | 1, h2 => exact fin h2
  | n + 2, h2 => simp at h2
end
end Go.Mx
