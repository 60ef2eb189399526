/- The clean memory against the model: operations, third part. -/
import Derived.Test.YtoljgolgecbcdaaMxEq
set_option linter.unusedVariables false
set_option linter.unusedSimpArgs false
namespace Go.Mx
section
variable {P : Program} {R : Type} {C : Ctx R} {ρ : Rn} {e : Env} {m : Mem} {a : Act} {w : World} {r : R} {K : Value → Mem → Option R}
  {dst : Option Tmp} {ty : TypeId} {pos : String} {after : Array Edge} {guard : Option (Nat × Bool)}

theorem eqGuard_const (op : BinOp) (t : TypeId) (x y : Operand) (hn : isNilConst y = true) : (eqGuard op t x y .nilIface .nilIface).run P w = .ok () w := by
  have hy : y = .const .nilIface := by
    unfold isNilConst at hn
    split at hn
    · rfl
    · simp at hn
  subst hy
  unfold eqGuard
  cases op <;> first | rfl | (simp <;> rfl)
/-- what an operator answers -/
def Ans (P : Program) (w : World) (op : BinOp) (t : TypeId) (xo yo : Operand) (x' y' : Value) (v : Value) : Prop :=
  plainV v = true ∧ (eqGuard op t xo yo x' y').run P w = .ok () w ∧ (binOp op t x' y').run P w = .ok v w

theorem binV_sound {T : TT} (hT : TOk P T) {op : BinOp} {t : TypeId} {x y x' y' : Value} {xo yo : Operand} {L : Nat} {K : Value → Option R}
    (h : binV T (T t).d (T t).eq op x y (isNilConst yo) K = some r) (hx : VR ρ L x x') (hy : VR ρ L y y') (hyn : isNilConst yo = true → y' = .nilIface) : ∃ v, K v = some r ∧ Ans P w op t xo yo x' y' v := by
  cases hd : (T t).d <;> simp only [binV, hd] at h
  case int kd =>
    split at h
    · rename_i k p k' q
      rw [hx.int_inv, hy.int_inv]
      have fin : ∀ {v : Value}, ((∃ n, v = .int k n) ∨ ∃ b, v = .bool b) → plainV v = true := by
        rintro v (⟨n, rfl⟩ | ⟨b, rfl⟩) <;> rfl
      have hg : (eqGuard op t xo yo (.int k p) (.int k' q)).run P w = .ok () w := eqGuard_none op t xo yo _ _ (by simp) (by simp)
      split at h
      · obtain ⟨v, h1, h2, h3⟩ := shift_sound (P := P) (w := w) (k' := k') (.inl rfl) h t
        exact ⟨v, h1, fin h3, hg, h2⟩
      · obtain ⟨v, h1, h2, h3⟩ := shift_sound (P := P) (w := w) (k' := k') (.inr rfl) h t
        exact ⟨v, h1, fin h3, hg, h2⟩
      · split at h
        · rename_i hk; subst hk
          obtain ⟨v, h1, h2, h3⟩ := binI_sound (P := P) (w := w) h t rfl
          exact ⟨v, h1, fin h3, hg, h2⟩
        · simp at h
    · simp at h
  case str =>
    split at h
    · rename_i p q
      rw [hx.str_inv, hy.str_inv]
      have hg : (eqGuard op t xo yo (.string p) (.string q)).run P w = .ok () w := eqGuard_none op t xo yo _ _ (by simp) (by simp)
      split at h
      · exact ⟨_, h, rfl, hg, by simp [binOp, Op.stringOp, strEq]⟩
      · exact ⟨_, h, rfl, hg, by simp [binOp, Op.stringOp, strEq]⟩
      · simp at h
    · simp at h
  case bool =>
    have ht := hT t (by rw [hd]; simp)
    have hdd := ht.desc
    rw [hd] at hdd
    split at h
    · rename_i b c
      rw [hx.bool_inv, hy.bool_inv]
      refine ⟨_, h, rfl, eqGuard_none _ _ _ _ _ _ (by simp) (by simp), ?_⟩
      rw [binOp_eql _ _ _ (by simp) (by simp) (by simp) (by simp)]
      simp [equal_bool (P := P) (w := w) hdd]
    · rename_i b c
      rw [hx.bool_inv, hy.bool_inv]
      refine ⟨_, h, rfl, eqGuard_none _ _ _ _ _ _ (by simp) (by simp), ?_⟩
      rw [binOp_neq _ _ _ (by simp) (by simp) (by simp) (by simp)]
      simp [equal_bool (P := P) (w := w) hdd]
    · simp at h
  case ptr el =>
    have ht := hT t (by rw [hd]; simp)
    have hdd := ht.desc
    rw [hd] at hdd
    have hp0 : ∀ {q : Option Addr} {v'}, VR ρ L (.pointer q) v' → ∃ q', v' = .pointer q' ∧ q'.isNone = q.isNone := by
      intro q v' hv; cases hv <;> exact ⟨_, rfl, rfl⟩
    split at h
    · rename_i b
      obtain ⟨q', h1, h2⟩ := hp0 hx
      cases hy
      rw [h1]
      refine ⟨_, h, rfl, eqGuard_none _ _ _ _ _ _ (by simp) (by simp), ?_⟩
      rw [binOp_eql _ _ _ (by simp) (by simp) (by simp) (by simp)]
      simp [equal_ptr0 (P := P) (w := w) hdd, h2]
    · rename_i b
      obtain ⟨q', h1, h2⟩ := hp0 hx
      cases hy
      rw [h1]
      refine ⟨_, h, rfl, eqGuard_none _ _ _ _ _ _ (by simp) (by simp), ?_⟩
      rw [binOp_neq _ _ _ (by simp) (by simp) (by simp) (by simp)]
      simp [equal_ptr0 (P := P) (w := w) hdd, h2]
    · simp at h
  case slice el =>
    have ht := hT t (by rw [hd]; simp)
    have hdd := ht.desc
    rw [hd] at hdd
    have hp0 : ∀ {q : Option Addr} {n c : Nat} {v'}, VR ρ L (.slice q n c) v' → ∃ q' n' c', v' = .slice q' n' c' ∧ q'.isNone = q.isNone := by
      intro q n c v' hv; cases hv <;> exact ⟨_, _, _, rfl, rfl⟩
    split at h
    · rename_i b n c n2 c2
      obtain ⟨q', n', c', h1, h2⟩ := hp0 hx
      cases hy
      rw [h1]
      refine ⟨_, h, rfl, eqGuard_none _ _ _ _ _ _ (by simp) (by simp), ?_⟩
      rw [binOp_eql _ _ _ (by simp) (by simp) (by simp) (by simp)]
      simp [equal_sl0 (P := P) (w := w) hdd.1, h2]
    · rename_i b n c n2 c2
      obtain ⟨q', n', c', h1, h2⟩ := hp0 hx
      cases hy
      rw [h1]
      refine ⟨_, h, rfl, eqGuard_none _ _ _ _ _ _ (by simp) (by simp), ?_⟩
      rw [binOp_neq _ _ _ (by simp) (by simp) (by simp) (by simp)]
      simp [equal_sl0 (P := P) (w := w) hdd.1, h2]
    · simp at h
  all_goals try (exfalso; simp at h; done)
  case' struct fs => have hagg : agg? (T t).d = true := by rw [hd]; rfl
  case' array n el => have hagg : agg? (T t).d = true := by rw [hd]; rfl
  case struct | array =>
    have ht := hT t (by rw [hd]; simp)
    split at h
    · rename_i p q
      simp only [Option.bind_eq_some_iff] at h
      obtain ⟨ks, hks, c, hc, hK⟩ := h
      obtain ⟨p', rfl, a1⟩ := hx.agg_inv
      obtain ⟨q', rfl, a2⟩ := hy.agg_inv
      obtain ⟨e1, e2⟩ := ht.eqv ks hks
      have hc' := cellsEq_rel a1 a2 hc
      obtain ⟨l1, l2⟩ := cellsEq_len hc'
      have key := eqIn_sound hT 30 9970 t ks (by rw [hd]; simp) e1 w p' q' (.agg ⟨p'⟩) (.agg ⟨q'⟩) c (by unfold IsV; rw [if_pos hagg]) (by unfold IsV; rw [if_pos hagg]) l1 l2 hc'
      refine ⟨_, hK, rfl, run_eqGuard_agg w _ _ _ _ _ _ e2, ?_⟩
      rw [run_eql_struct]
      rw [show (10000 : Nat) = 9970 + 30 from rfl, key]; rfl
    · rename_i p q
      simp only [Option.bind_eq_some_iff] at h
      obtain ⟨ks, hks, c, hc, hK⟩ := h
      obtain ⟨p', rfl, a1⟩ := hx.agg_inv
      obtain ⟨q', rfl, a2⟩ := hy.agg_inv
      obtain ⟨e1, e2⟩ := ht.eqv ks hks
      have hc' := cellsEq_rel a1 a2 hc
      obtain ⟨l1, l2⟩ := cellsEq_len hc'
      have key := eqIn_sound hT 30 9970 t ks (by rw [hd]; simp) e1 w p' q' (.agg ⟨p'⟩) (.agg ⟨q'⟩) c (by unfold IsV; rw [if_pos hagg]) (by unfold IsV; rw [if_pos hagg]) l1 l2 hc'
      refine ⟨_, hK, rfl, run_eqGuard_agg w _ _ _ _ _ _ e2, ?_⟩
      rw [run_neq_struct]
      rw [show (10000 : Nat) = 9970 + 30 from rfl, key]; rfl
    · simp at h
  case iface =>
    have ht := hT t (by rw [hd]; simp)
    have hdd := ht.desc
    rw [hd] at hdd
    obtain ⟨ms, hu⟩ := hdd
    -- the two answers
    have main : ∀ (neg : Bool), (op = .eql ∧ neg = false ∨ op = .neq ∧ neg = true) → ((bif isNilConst yo then (isNil x).bind fun c => K (.bool (neg ^^ c)) else (ifEq T x y).bind fun c => K (.bool (neg ^^ c))) = some r) →
        ∃ v, K v = some r ∧ Ans P w op t xo yo x' y' v := by
      intro neg hop h
      have fin : ∀ (c : Bool), (Op.equal t x' y').run P w = .ok c w → (∀ k n, x' ≠ .int k n) → (∀ s, x' ≠ .string s) → (∀ k n, x' ≠ .float k n) → (∀ k a b, x' ≠ .complex k a b) → (binOp op t x' y').run P w = .ok (.bool (neg ^^ c)) w := by
        intro c hc a1 a2 a3 a4
        rcases hop with ⟨rfl, rfl⟩ | ⟨rfl, rfl⟩
        · rw [binOp_eql _ _ _ a1 a2 a3 a4]; simp [hc]
        · rw [binOp_neq _ _ _ a1 a2 a3 a4]; simp [hc]
      cases hn : isNilConst yo with
      | true =>
        simp only [hn, cond_true, Option.bind_eq_some_iff] at h
        obtain ⟨c, hc, hK⟩ := h
        refine ⟨_, hK, rfl, ?_⟩
        have hy' := hyn hn
        subst hy'
        unfold isNil at hc
        split at hc
        · simp at hc; subst hc
          cases hx
          exact ⟨eqGuard_const _ _ _ _ hn, fin _ (equal_nil hu) (by simp) (by simp) (by simp) (by simp)⟩
        · simp at hc; subst hc
          cases hx
          exact ⟨eqGuard_none _ _ _ _ _ _ (by simp) (by simp), fin _ (equal_nil2 hu _ _) (by simp) (by simp) (by simp) (by simp)⟩
        · simp at hc
      | false =>
        simp only [hn, cond_false, Option.bind_eq_some_iff] at h
        obtain ⟨c, hc, hK⟩ := h
        refine ⟨_, hK, rfl, ?_⟩
        unfold ifEq at hc
        split at hc
        · simp at hc; subst hc
          cases hx; cases hy
          exact ⟨eqGuard_none _ _ _ _ _ _ (by simp) (by simp), fin _ (equal_nil1 hu _ _) (by simp) (by simp) (by simp) (by simp)⟩
        · simp at hc; subst hc
          cases hx; cases hy
          exact ⟨eqGuard_none _ _ _ _ _ _ (by simp) (by simp), fin _ (equal_nil2 hu _ _) (by simp) (by simp) (by simp) (by simp)⟩
        · rename_i u k1 p u' k2 q
          cases hx with | iface _ _ _ hx => cases hy with | iface _ _ _ hy =>
          obtain rfl := hx.int_inv
          obtain rfl := hy.int_inv
          refine ⟨eqGuard_none _ _ _ _ _ _ (by simp) (by simp), ?_⟩
          split at hc
          · rename_i hu'; subst hu'
            split at hc
            · rename_i k hk
              split at hc
              · rename_i hkk
                simp at hc; subst hc
                have htu := hT u (by rw [hk]; simp)
                have hdu := htu.desc
                rw [hk] at hdu
                obtain ⟨i, hi, hci⟩ := htu.cmp k hk
                exact fin _ (equal_if_int hu u hdu hi hci hkk _ _) (by simp) (by simp) (by simp) (by simp)
              · simp at hc
            · simp at hc
          · rename_i hne
            simp at hc; subst hc
            exact fin _ (equal_if_ne hu _ _ hne _ _) (by simp) (by simp) (by simp) (by simp)
        · rename_i u p u' q hnot
          cases hx with | iface _ _ _ hx => cases hy with | iface _ _ _ hy =>
          split at hc
          · simp at hc
          · rename_i hne
            simp at hc; subst hc
            exact ⟨eqGuard_none _ _ _ _ _ _ (by simp) (by simp), fin _ (equal_if_ne hu _ _ hne _ _) (by simp) (by simp) (by simp) (by simp)⟩
        · simp at hc
    split at h
    · exact main false (.inl ⟨rfl, rfl⟩) (by simpa using h)
    · exact main true (.inr ⟨rfl, rfl⟩) (by simpa using h)
    · simp at h

theorem op_binOp (hs : St P C.T ρ e m a w) {op : BinOp} {t yt : TypeId} {x y : Operand} (h : oper C (.binOp op t x y yt) e m K = some r) : ∃ v m', K v m' = some r ∧ Did P a ⟨dst, .binOp op t x y yt, ty, pos, after, guard⟩ ρ m w v m' := by
  simp only [oper] at h
  split at h
  · rename_i u v hu hv
    obtain ⟨z, h1, h2, h3, h4⟩ := binV_sound (P := P) (w := w) (xo := x) (yo := y) hs.tok h (opnd_sound hs.env hu) (opnd_sound hs.env hv) (by
      intro hn
      unfold isNilConst at hn
      split at hn
      · rfl
      · simp at hn)
    refine ⟨z, m, h1, .here hs.mem (v' := z) ?_ (VR.plain h2)⟩
    simp [execOp, h3, h4]
  · simp at h

theorem op_unOp (hs : St P C.T ρ e m a w) {op : UnOp} {t : TypeId} {x : Operand} (h : oper C (.unOp op t x) e m K = some r) : ∃ v m', K v m' = some r ∧ Did P a ⟨dst, .unOp op t x, ty, pos, after, guard⟩ ρ m w v m' := by
  simp only [oper] at h
  split at h
  · rename_i b hx
    have hx' := (opnd_sound hs.env hx).bool_inv
    exact ⟨_, m, h, .here hs.mem (v' := .bool (!b)) (by simp [execOp, Op.unary, hx']) (.bool _)⟩
  · rename_i k n hx
    have hx' := (opnd_sound hs.env hx).int_inv
    exact ⟨_, m, h, .here hs.mem (v' := .int k (k.wrap (0 - n))) (by simp [execOp, Op.unary, Op.intArith, hx']) (.int _ _)⟩
  · rename_i k n hx
    have hx' := (opnd_sound hs.env hx).int_inv
    exact ⟨_, m, h, .here hs.mem (v' := .int k (bitI .xor k (if k.signed then -1 else k.max) n)) (by simp [execOp, Op.unary, Op.intBits, hx', bitI]) (.int _ _)⟩
  · simp at h

theorem op_makeFunc (hs : St P C.T ρ e m a w) {fn : Fn} {first captured : Array Operand} (h : oper C (.makeFunc fn first captured) e m K = some r) : ∃ v m', K v m' = some r ∧ Did P a ⟨dst, .makeFunc fn first captured, ty, pos, after, guard⟩ ρ m w v m' := by
  simp only [oper] at h
  split at h
  · rename_i f fa ca hfa hca
    obtain ⟨l1, a1⟩ := opnds_sound hs.env hfa
    obtain ⟨l2, a2⟩ := opnds_sound hs.env hca
    have conv : ∀ {xs : Array Operand} {vs : List Value}, vs.length = xs.toList.length → (∀ (i : Nat) v, vs[i]? = some v → ∃ x, xs.toList[i]? = some x ∧ VR ρ m.length v (a.eval x)) →
        vs.length = (xs.map a.eval).toList.length ∧ ∀ i, i < vs.length → VR ρ m.length (vs.getD i undef) ((xs.map a.eval).toList.getD i undef) := by
      intro xs vs hl hv
      refine ⟨by simp [hl], fun i hi => ?_⟩
      obtain ⟨x, h1, h2⟩ := hv i vs[i] (by simp [hi])
      have : (xs.map a.eval).toList[i]? = some (a.eval x) := by rw [Array.toList_map, List.getElem?_map, h1]; rfl
      rw [List.getD_eq_getElem?_getD, List.getD_eq_getElem?_getD, this, List.getElem?_eq_getElem hi]
      exact h2
    obtain ⟨b1, b2⟩ := conv l1 a1
    obtain ⟨b3, b4⟩ := conv l2 a2
    refine ⟨_, m, h, .here hs.mem (v' := .func (.func f) (first.map a.eval) (captured.map a.eval)) ?_ (.fn f _ _ _ _ b1 b3 b2 b4)⟩
    simp [execOp, Instr.makeFunc]
  · simp at h

theorem op_makeInterface (hs : St P C.T ρ e m a w) {t : TypeId} {x : Operand} (h : oper C (.makeInterface t x) e m K = some r) : ∃ v m', K v m' = some r ∧ Did P a ⟨dst, .makeInterface t x, ty, pos, after, guard⟩ ρ m w v m' := by
  simp only [oper] at h
  split at h
  · simp at h
  · simp at h
  · rename_i v hx hn1 hn2
    have hx' := opnd_sound hs.env hx
    refine ⟨_, m, h, .here hs.mem (v' := .iface t (a.eval x)) ?_ (.iface _ _ _ hx')⟩
    have ht := (hs.tok t (by intro h; exact hn2 h)).desc
    have hu : ∃ d, P.underlying t = some d ∧ ∀ ms, d ≠ .interface ms := by
      cases hd : (C.T t).d <;> rw [hd] at ht <;> simp only [descOk] at ht
      case iface => exact absurd hd hn1
      case map => obtain ⟨k, e, h⟩ := ht; exact ⟨_, h, by simp⟩
      case struct fs => obtain ⟨k, h, _⟩ := ht; exact ⟨_, h, by simp⟩
      case array n e => exact ⟨_, ht.1, by simp⟩
      case slice e => exact ⟨_, ht.1, by simp⟩
      case fn => obtain ⟨k, e, f, h⟩ := ht; exact ⟨_, h, by simp⟩
      all_goals exact ⟨_, ht, by simp⟩
    obtain ⟨d, hu, hd⟩ := hu
    simp only [execOp, Instr.makeInterface, Sem.run_bind, under w hu, Result.andThen_ok]
    rfl
  · simp at h

theorem op_extract (hs : St P C.T ρ e m a w) {x : Operand} {i : Nat} (h : oper C (.extract x i) e m K = some r) : ∃ v m', K v m' = some r ∧ Did P a ⟨dst, .extract x i, ty, pos, after, guard⟩ ρ m w v m' := by
  simp only [oper] at h
  split at h
  · rename_i vs hx
    obtain ⟨cs', h1, h2, h3⟩ := (opnd_sound hs.env hx).tuple_inv
    split at h
    · rename_i v hv
      obtain ⟨u, h4, h5⟩ := h3 i v hv
      refine ⟨v, m, h, .here hs.mem (v' := u) ?_ h5⟩
      simp [execOp, Instr.extract, h1, h4]
    · simp at h
  · simp at h
end
end Go.Mx
