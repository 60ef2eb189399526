/- The clean memory against the model: operations. -/
import Derived.Test.YtoljgolgecbcdaaMxTy
import Derived.Tactics
import Derived.BigFrame
set_option linter.unusedVariables false
set_option linter.unusedSimpArgs false
namespace Go.Mx

def EnvR (ρ : Rn) (L : Nat) (e : Env) (tmps : Array Value) : Prop := ∀ t v, lk t e = some v → t < tmps.size ∧ VR ρ L v (tmps.getD t undef)

theorem EnvR.mono {ρ ρ' : Rn} {L L' : Nat} (ha : ∀ n, n < L → ρ'.Same ρ n) (hl : L ≤ L') {e : Env} {tmps : Array Value} (h : EnvR ρ L e tmps) : EnvR ρ' L' e tmps :=
  fun t v ht => ⟨(h t v ht).1, (h t v ht).2.mono ha hl⟩

theorem opnd_sound {ρ : Rn} {L : Nat} {e : Env} {a : Act} (he : EnvR ρ L e a.tmps) {x : Operand} {v : Value} (h : opnd e x = some v) : VR ρ L v (a.eval x) := by
  cases x with
  | tmp t => exact (he t v h).2
  | const c =>
    simp only [opnd] at h
    cases hp : plainV c with
    | false => simp [hp] at h
    | true => simp [hp] at h; subst h; exact VR.plain hp
  | global g => simp [opnd] at h
  | func f => simp [opnd] at h; subst h; exact .fn f [] [] [] [] rfl rfl (by simp) (by simp)

theorem opnds_sound {ρ : Rn} {L : Nat} {e : Env} {a : Act} (he : EnvR ρ L e a.tmps) : ∀ {xs : List Operand} {vs : List Value}, opnds e xs = some vs → vs.length = xs.length ∧ ∀ (i : Nat) v, vs[i]? = some v → ∃ x, xs[i]? = some x ∧ VR ρ L v (a.eval x)
  | [], vs, h => by simp [opnds] at h; subst h; simp
  | x :: xs, vs, h => by
    simp only [opnds] at h
    split at h
    · rename_i v vs' h1 h2
      simp at h; subst h
      obtain ⟨h3, h4⟩ := opnds_sound he h2
      refine ⟨by simp [h3], fun i u hi => ?_⟩
      cases i with
      | zero => simp at hi; subst hi; exact ⟨x, by simp, opnd_sound he h1⟩
      | succ i => simp at hi; simpa using h4 i u hi
    · simp at h

def Did (P : Program) (a : Act) (o : Oper) (ρ : Rn) (m : Mem) (w : World) (v : Value) (m' : Mem) : Prop :=
  ∃ v' w' ρ', ((execOp a.eval o).run P w = .ok (.value v') w' ∨ ((execOp a.eval o).run P w = .ok .skip w' ∧ v' = undef)) ∧ VR ρ' m'.length v v' ∧ MRep ρ' m' w' ∧ Evo ρ m w ρ' m' w'

theorem Did.here {P a o ρ m w v v'} (hm : MRep ρ m w) (h : (execOp a.eval o).run P w = .ok (.value v') w) (hv : VR ρ m.length v v') : Did P a o ρ m w v m :=
  ⟨v', w, ρ, .inl h, hv, hm, Evo.refl _ _ _⟩

structure St (P : Program) (T : TT) (ρ : Rn) (e : Env) (m : Mem) (a : Act) (w : World) : Prop where
  tok : TOk P T
  env : EnvR ρ m.length e a.tmps
  mem : MRep ρ m w

section
variable {P : Program} {R : Type} {C : Ctx R} {ρ : Rn} {e : Env} {m : Mem} {a : Act} {w : World} {r : R} {K : Value → Mem → Option R}
  {dst : Option Tmp} {ty : TypeId} {pos : String} {after : Array Edge} {guard : Option (Nat × Bool)}

theorem VR.int_inv {ρ L k n v'} (h : VR ρ L (.int k n) v') : v' = .int k n := by cases h; rfl
theorem VR.bool_inv {ρ L b v'} (h : VR ρ L (.bool b) v') : v' = .bool b := by cases h; rfl
theorem VR.str_inv {ρ L s v'} (h : VR ρ L (.string s) v') : v' = .string s := by cases h; rfl
theorem VR.ptr_inv {ρ L x v'} (h : VR ρ L (.pointer (some x)) v') : v' = .pointer (some (toR ρ x)) ∧ x.block < L := by cases h; exact ⟨rfl, by assumption⟩
theorem VR.sl_inv {ρ L p n c v'} (h : VR ρ L (.slice p n c) v') : (p = none ∧ n = 0 ∧ c = 0 ∧ v' = .slice none 0 0) ∨ ∃ x x' c', p = some x ∧ v' = .slice (some x') n c' ∧ x.block < L ∧ SlOk ρ x x' n c c' := by
  cases h with
  | sl0 => exact .inl ⟨rfl, rfl, rfl, rfl⟩
  | sl x x' n c c' h1 h2 => exact .inr ⟨x, x', c', rfl, rfl, h1, h2⟩
theorem VR.tuple_inv {ρ L} {cs : Array Value} {v' : Value} (h : VR ρ L (.tuple cs) v') : ∃ cs', v' = .tuple ⟨cs'⟩ ∧ cs.toList.length = cs'.length ∧ ∀ (i : Nat) v, cs.toList[i]? = some v → ∃ u, cs'[i]? = some u ∧ VR ρ L v u := by
  cases h with
  | tuple cs cs' h1 h3 =>
    refine ⟨cs', rfl, h1, fun i v hi => ?_⟩
    have hlt : i < cs.length := by
      rcases Nat.lt_or_ge i cs.length with h | h
      · exact h
      · simp [List.getElem?_eq_none h] at hi
    have h4 := h3 i hlt
    rw [getD_of_get? hi] at h4
    exact ⟨cs'.getD i undef, by simp [List.getD, (show i < cs'.length by omega)], h4⟩

theorem op_move (hs : St P C.T ρ e m a w) {x : Operand} (h : oper C (.move x) e m K = some r) : ∃ v m', K v m' = some r ∧ Did P a ⟨dst, .move x, ty, pos, after, guard⟩ ρ m w v m' := by
  simp only [oper] at h
  split at h
  · rename_i v hv
    exact ⟨v, m, h, .here hs.mem rfl (opnd_sound hs.env hv)⟩
  · simp at h
theorem op_assign (hs : St P C.T ρ e m a w) {x : Operand} (h : oper C (.assign x) e m K = some r) : ∃ v m', K v m' = some r ∧ Did P a ⟨dst, .assign x, ty, pos, after, guard⟩ ρ m w v m' := by
  simp only [oper] at h
  split at h
  · rename_i v hv
    exact ⟨v, m, h, .here hs.mem rfl (opnd_sound hs.env hv)⟩
  · simp at h
theorem op_pick (hs : St P C.T ρ e m a w) {x y z : Operand} (h : oper C (.pick x y z) e m K = some r) : ∃ v m', K v m' = some r ∧ Did P a ⟨dst, .pick x y z, ty, pos, after, guard⟩ ρ m w v m' := by
  simp only [oper] at h
  split at h
  · rename_i t ht
    have h1 := (opnd_sound hs.env ht).bool_inv
    cases t with
    | true =>
      simp only [cond_true] at h
      split at h
      · rename_i v hv
        refine ⟨v, m, h, .here hs.mem (v' := a.eval y) ?_ (opnd_sound hs.env hv)⟩
        simp [execOp, h1, asBool]
      · simp at h
    | false =>
      simp only [cond_false] at h
      split at h
      · rename_i v hv
        refine ⟨v, m, h, .here hs.mem (v' := a.eval z) ?_ (opnd_sound hs.env hv)⟩
        simp [execOp, h1, asBool]
      · simp at h
  · simp at h

theorem heap_push (w : World) (o : Obj) : ({ w with heap := w.heap.push o } : World).heap = w.heap.push o := rfl

theorem plain_one {v : Value} (h : plainV v = true) : v.oneCell' = true := by
  cases v <;> simp [plainV, Value.oneCell'] at h ⊢

/-- a new object of known cells -/
theorem new_obj {cs real : List Value} (hm : MRep ρ m w) (hcs : VRs ρ m.length cs real) (elem : TypeId) :
    ∃ ρ', MRep ρ' (m ++ [.live cs]) { w with heap := w.heap.push (.cells ⟨real⟩ elem) } ∧ Evo ρ m w ρ' (m ++ [.live cs]) { w with heap := w.heap.push (.cells ⟨real⟩ elem) } ∧ (ρ'.blk m.length = w.heap.size ∧ ρ'.sh m.length = 0) ∧ ρ'.sz m.length = real.length := by
  have hl := hcs.len
  have h1 := MRep.alloc hm (cs := cs) (real := real) (elem := elem) (fr := (0, 0)) (by rw [hl, List.take_length]; exact hcs) (by omega) (by
    intro v hv
    obtain ⟨i, hi, rfl⟩ := List.mem_iff_getElem.1 hv
    have hi' : i < cs.length := by omega
    obtain ⟨v', h3, h4⟩ := hcs.all i cs[i] (by simp [hi'])
    have : v' = real[i] := by
      rw [List.getElem?_eq_getElem hi] at h3; simp at h3; exact h3.symm
    rw [← this, ← h4.one]
    exact hcs.one _ (List.getElem_mem hi')) (by intro j _; simp) (w' := { w with heap := w.heap.push (.cells ⟨real⟩ elem) }) rfl rfl rfl rfl
  exact ⟨_, h1.1, h1.2, ⟨by simp [Rn.upd], by simp [Rn.upd]⟩, by simp [Rn.upd]⟩

theorem VR.new {ρ' : Rn} {m : Mem} {cs : List Value} {w : World} (hb : ρ'.blk m.length = w.heap.size ∧ ρ'.sh m.length = 0) : VR ρ' (m ++ [MObj.live cs]).length (ptrTo m.length) (.pointer (some ⟨w.heap.size, 0, none⟩)) := by
  have := VR.ptr (ρ := ρ') (L := (m ++ [MObj.live cs]).length) ⟨m.length, 0, none⟩ (by simp)
  simpa [toR, hb.1, hb.2, ptrTo] using this

theorem op_alloc (hs : St P C.T ρ e m a w) {t : TypeId} (h : oper C (.alloc t) e m K = some r) : ∃ v m', K v m' = some r ∧ Did P a ⟨dst, .alloc t, ty, pos, after, guard⟩ ρ m w v m' := by
  have hne : (C.T t).d ≠ .other := by
    intro hd
    simp only [oper, hd] at h
    simp at h
  have ht := hs.tok t hne
  have h2 : K (ptrTo m.length) (m ++ [.live (C.T t).zero]) = some r := by
    simp only [oper] at h
    exact h
  obtain ⟨z, hz, hz2⟩ := ht.zero w
  obtain ⟨ρ', h3, h4, h5, _⟩ := new_obj hs.mem (VRs.plain (ρ := ρ) (L := m.length) ht.plain) t
  refine ⟨_, _, h2, .pointer (some ⟨w.heap.size, 0, none⟩), { w with heap := w.heap.push (.cells ⟨(C.T t).zero⟩ t) }, ρ', .inl ?_, VR.new h5, h3, h4⟩
  simp [execOp, Instr.alloc, hz, newVar, newRow, ← hz2]

theorem op_box (hs : St P C.T ρ e m a w) {t : TypeId} {x : Operand} (h : oper C (.box t x) e m K = some r) : ∃ v m', K v m' = some r ∧ Did P a ⟨dst, .box t x, ty, pos, after, guard⟩ ρ m w v m' := by
  simp only [oper] at h
  split at h
  · rename_i v hv
    obtain ⟨hne, cs, cs', h1, h2, h3, _⟩ := cellsT_sound h (opnd_sound hs.env hv)
    obtain ⟨ρ', h4, h5, h6, _⟩ := new_obj hs.mem h2 t
    refine ⟨_, _, h1, .pointer (some ⟨w.heap.size, 0, none⟩), { w with heap := w.heap.push (.cells ⟨cs'⟩ t) }, ρ', .inl ?_, VR.new h6, h4, h5⟩
    simp [execOp, Instr.box, newVar, newRow, ← h3]
  · simp at h

theorem op_load (hs : St P C.T ρ e m a w) {t : TypeId} {x : Operand} (h : oper C (.load t x) e m K = some r) : ∃ v m', K v m' = some r ∧ Did P a ⟨dst, .load t x, ty, pos, after, guard⟩ ρ m w v m' := by
  simp only [oper] at h
  split at h
  · rename_i p hp
    have hp' := (opnd_sound hs.env hp).ptr_inv.1
    obtain ⟨v, v', h1, h2, h3⟩ := ldT_sound hs.tok hs.mem h
    refine ⟨v, m, h1, .here hs.mem (v' := v') ?_ h2⟩
    simp [execOp, Instr.loadAt, hp', Instr.sureAddr, h3]
  · simp at h

theorem op_store (hs : St P C.T ρ e m a w) {t : TypeId} {x y : Operand} (h : oper C (.store t x y) e m K = some r) : ∃ v m', K v m' = some r ∧ Did P a ⟨dst, .store t x y, ty, pos, after, guard⟩ ρ m w v m' := by
  simp only [oper] at h
  split at h
  · rename_i p v hp hv
    have hp' := (opnd_sound hs.env hp).ptr_inv.1
    obtain ⟨m', w', h1, h2, h3, h4⟩ := stT_sound hs.tok hs.mem h (opnd_sound hs.env hv)
    refine ⟨_, m', h1, undef, w', ρ, .inr ⟨?_, rfl⟩, ?_, h3, h4⟩
    · simp [execOp, Instr.storeAt, hp', Instr.sureAddr, h2]
    · exact .tuple [] [] rfl (by simp)
  · simp at h

theorem op_nilCheck (hs : St P C.T ρ e m a w) {x : Operand} (h : oper C (.nilCheck x) e m K = some r) : ∃ v m', K v m' = some r ∧ Did P a ⟨dst, .nilCheck x, ty, pos, after, guard⟩ ρ m w v m' := by
  simp only [oper] at h
  split at h
  · rename_i p hp
    simp only [Option.bind_eq_some_iff] at h
    obtain ⟨ad, rfl, h1⟩ := h
    have hp' := opnd_sound hs.env hp
    refine ⟨_, m, h1, .here hs.mem (v' := a.eval x) ?_ hp'⟩
    rw [hp'.ptr_inv.1]
    simp [execOp, hp'.ptr_inv.1]
  · simp at h

theorem VR.plus {ρ L} {x : Addr} (n : Nat) (h : x.block < L) : VR ρ L (.pointer (some (plus x n))) (.pointer (some ((toR ρ x).add n))) := by
  have := VR.ptr (ρ := ρ) (L := L) (Mx.plus x n) h
  simpa [toR, add_none, Mx.plus, Nat.add_assoc] using this

theorem op_fieldAddr (hs : St P C.T ρ e m a w) {t : TypeId} {x : Operand} {f : Nat} (h : oper C (.fieldAddr t x f) e m K = some r) : ∃ v m', K v m' = some r ∧ Did P a ⟨dst, .fieldAddr t x f, ty, pos, after, guard⟩ ρ m w v m' := by
  simp only [oper] at h
  split at h
  · rename_i fs p hd hp
    obtain ⟨hp', hlt⟩ := (opnd_sound hs.env hp).ptr_inv
    split at h
    · rename_i ft off hf
      have ht := hs.tok t (by rw [hd]; simp)
      have hdd := ht.desc
      rw [hd] at hdd
      obtain ⟨fields, hu, hmap, hall⟩ := hdd
      rw [← hmap, List.getElem?_map] at hf
      obtain ⟨fd, hfd, hfd2⟩ := Option.map_eq_some_iff.1 hf
      simp only [Prod.mk.injEq] at hfd2
      obtain ⟨rfl, rfl⟩ := hfd2
      have hfm : (fd.type, fd.offset) ∈ fs := by
        rw [← hmap]
        exact List.mem_map.2 ⟨fd, List.mem_of_getElem? hfd, rfl⟩
      have hn1 := hall _ hfm
      have hn2 : (C.T fd.type).size ≠ 0 := by
        intro h0
        rw [h0] at h
        simp at h
      have hb0 : Nat.beq (C.T fd.type).size 0 = false := by
        cases hb : Nat.beq (C.T fd.type).size 0 with
        | false => rfl
        | true => exact absurd (Nat.eq_of_beq_eq_true hb) hn2
      rw [hb0] at h
      simp only [cond_false] at h
      refine ⟨_, m, h, .here hs.mem (v' := .pointer (some ((toR ρ p).add fd.offset))) ?_ (VR.plus _ hlt)⟩
      have hfa : fields[f]? = some fd := by simpa using hfd
      have hsz := (hs.tok fd.type hn1).size w
      simp [execOp, Instr.fieldAt, under w hu, hfa, hp', Instr.sureAddr, fieldPlace, hsz, hn2]
    · simp at h
  · simp at h

theorem op_field (hs : St P C.T ρ e m a w) {t : TypeId} {x : Operand} {f : Nat} (h : oper C (.field t x f) e m K = some r) : ∃ v m', K v m' = some r ∧ Did P a ⟨dst, .field t x f, ty, pos, after, guard⟩ ρ m w v m' := by
  simp only [oper] at h
  split at h
  · rename_i fs p hd hp
    obtain ⟨cs', hp', hcs⟩ := (opnd_sound hs.env hp).agg_inv
    split at h
    · rename_i ft off hf
      have ht := hs.tok t (by rw [hd]; simp)
      have hdd := ht.desc
      rw [hd] at hdd
      obtain ⟨fields, hu, hmap, hall⟩ := hdd
      rw [← hmap, List.getElem?_map] at hf
      obtain ⟨fd, hfd, hfd2⟩ := Option.map_eq_some_iff.1 hf
      simp only [Prod.mk.injEq] at hfd2
      obtain ⟨rfl, rfl⟩ := hfd2
      obtain ⟨v, v', h1, h2, h3⟩ := getT_sound hs.tok h hcs w
      refine ⟨v, m, h1, .here hs.mem (v' := v') ?_ h2⟩
      have hfa : fields[f]? = some fd := by simpa using hfd
      simp [execOp, Instr.field, under w hu, hfa, hp', asAgg, h3]
    · simp at h
  · simp at h

theorem range_of {i : Int} {n : Nat} (h : inRange i n = true) : 0 ≤ i ∧ i < n := by simpa [inRange] using h

theorem op_indexAddr (hs : St P C.T ρ e m a w) {t : TypeId} {x ix : Operand} (h : oper C (.indexAddr t x ix) e m K = some r) : ∃ v m', K v m' = some r ∧ Did P a ⟨dst, .indexAddr t x ix, ty, pos, after, guard⟩ ρ m w v m' := by
  simp only [oper] at h
  split at h
  · rename_i n el p k i hd hp hi
    obtain ⟨hp', hlt⟩ := (opnd_sound hs.env hp).ptr_inv
    have hi' := (opnd_sound hs.env hi).int_inv
    have ht := hs.tok t (by rw [hd]; simp)
    have hdd := ht.desc
    rw [hd] at hdd
    cases hr : inRange i n with
    | false => simp [hr] at h
    | true =>
      simp only [hr, cond_true] at h
      have hsz := (hs.tok el hdd.2).size w
      refine ⟨_, m, h, .here hs.mem (v' := .pointer (some ((toR ρ p).add (i.toNat * (C.T el).size)))) ?_ (VR.plus _ hlt)⟩
      have hr' := range_of hr
      simp [execOp, Instr.indexAt, hi', asIntOf, under w hdd.1, hp', Instr.sureAddr, hr', hsz]
  · rename_i el p n c k i hd hp hi
    have hi' := (opnd_sound hs.env hi).int_inv
    have ht := hs.tok t (by rw [hd]; simp)
    have hdd := ht.desc
    rw [hd] at hdd
    cases hr : inRange i n with
    | false => simp [hr] at h
    | true =>
      simp only [hr, cond_true, Option.bind_eq_some_iff] at h
      obtain ⟨ad, rfl, h⟩ := h
      have hr' := range_of hr
      have hsz := (hs.tok el hdd.2).size w
      rcases (opnd_sound hs.env hp).sl_inv with ⟨h1, _⟩ | ⟨x1, x', c', h1, h2, h3, h4⟩
      · simp at h1
      · simp only [Option.some.injEq] at h1
        subst h1
        rcases h4.1 with h5 | h5
        · have := h4.2.1; omega
        · subst h5
          refine ⟨_, m, h, .here hs.mem (v' := .pointer (some ((toR ρ ad).add (i.toNat * (C.T el).size)))) ?_ (VR.plus _ h3)⟩
          simp [execOp, Instr.indexAt, hi', asIntOf, under w hdd.1, h2, hr', hsz]
  · simp at h
end
end Go.Mx
