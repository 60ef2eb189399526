/- The clean memory against the model: operations, fifth part: built values, append, copy. -/
import Derived.Test.YtoljgolgecbcdaaMxOps4
set_option linter.unusedVariables false
set_option linter.unusedSimpArgs false
namespace Go.Mx

/-- the model's way of putting a part's cells in -/
theorem foldl_put : ∀ (vs : List Value) (off j : Nat) (cells : Array Value), off + j + vs.length ≤ cells.size →
    ((vs.zipIdx j).foldl (fun (cs : Array Value) (x : Value × Nat) => cs.setIfInBounds (off + x.2) x.1) cells).toList = cells.toList.take (off + j) ++ vs ++ cells.toList.drop (off + j + vs.length)
  | [], off, j, cells, h => by simp
  | v :: vs, off, j, cells, h => by
    simp only [List.length_cons] at h
    rw [List.zipIdx_cons, List.foldl_cons, foldl_put vs off (j + 1) _ (by simp; omega)]
    rw [Array.toList_setIfInBounds]
    have := seg_step cells.toList (off + j) v vs (by simp; omega)
    rw [List.length_cons, show off + (j + 1) = off + j + 1 by omega]
    exact this

theorem fill_put {place : Nat → Option (Nat × Nat)} {cells : Array Value} {i off size : Nat} {v : Value} {rest : List (Nat × Value)} (hp : place i = some (off, size)) (hv : v.cells.size = size) (hle : off + size ≤ cells.size) :
    Instr.fill place cells ((i, v) :: rest) = Instr.fill place ⟨putAt cells.toList off size v.cells.toList⟩ rest := by
  have e : ((v.cells.zipIdx).foldl (fun (cs : Array Value) (x : Value × Nat) => cs.setIfInBounds (off + x.2) x.1) cells) = ⟨putAt cells.toList off size v.cells.toList⟩ := by
    apply Array.toList_inj.1
    rw [← Array.foldl_toList, Array.toList_zipIdx]
    have := foldl_put v.cells.toList off 0 cells (by simpa [hv] using hle)
    simp only [Nat.add_zero] at this
    rw [this]
    simp [putAt, hv]
  have h1 : ¬ (off + v.cells.size > cells.size) := by omega
  have h2 : (decide (v.cells.size ≠ size) || decide (off + v.cells.size > cells.size)) = false := by simp [hv]; omega
  rw [Instr.fill, hp]
  simp only
  have e2 : (v.cells.zipIdx.foldl (fun cs (c, j) => cs.setIfInBounds (off + j) c) cells) = ⟨putAt cells.toList off size v.cells.toList⟩ := e
  rw [e2]
  simp [hv]
  omega

theorem putAt_length {cs vs : List Value} {i n : Nat} (h : i + n ≤ cs.length) (hv : vs.length = n) : (putAt cs i n vs).length = cs.length := by
  simp [putAt, hv]; omega
theorem VRs.putAt {ρ L cs cs' vs vs'} (i n : Nat) (h : VRs ρ L cs cs') (hv : VRs ρ L vs vs') : VRs ρ L (putAt cs i n vs) (Mx.putAt cs' i n vs') :=
  ((h.take i).append hv).append (h.drop (i + n))

section
variable {P : Program} {R : Type} {C : Ctx R} {ρ : Rn} {e : Env} {m : Mem} {a : Act} {w : World} {r : R} {K : Value → Mem → Option R}
  {dst : Option Tmp} {ty : TypeId} {pos : String} {after : Array Edge} {guard : Option (Nat × Bool)}

theorem CL.len {T : TT} {t : Nat} {cs : List Value} (hT : TOk P T) (hne : (T t).d ≠ .other) (h : CL T t cs) : cs.length = (T t).size := by
  rcases h with h | ⟨h1, h2⟩
  · exact h
  · rw [h2, (hT t hne).one h1]

theorem fillS_sound {T : TT} (hT : TOk P T) {L : Nat} (he : EnvR ρ L e a.tmps) {fs : List (Nat × Nat)} {N : Nat} {place : Nat → Option (Nat × Nat)}
    (hplace : ∀ (i : Nat) t off, fs[i]? = some (t, off) → place i = some (off, (T t).size)) :
    ∀ (ps : List (Nat × Operand)) (cs cs' : List Value) (K : List Value → Option R), fillS T fs e N ps cs K = some r → VRs ρ L cs cs' → cs.length = N →
      ∃ out out', K out = some r ∧ VRs ρ L out out' ∧ out.length = N ∧ Instr.fill place ⟨cs'⟩ (ps.map fun x => (x.1, a.eval x.2)) = some ⟨out'⟩
  | [], cs, cs', K, h, hv, hN => ⟨cs, cs', h, hv, hN, rfl⟩
  | (i, x) :: ps, cs, cs', K, h, hv, hN => by
    simp only [fillS, gN_eq] at h
    split at h
    · rename_i t off v hf hx
      have hx' := opnd_sound he hx
      obtain ⟨hne, vs, vs', h1, h2, h3, h4⟩ := cellsT_sound h hx'
      have hlen := h4.len hT hne
      cases hb : Nat.ble (off + (T t).size) N with
      | false => rw [hb] at h1; simp at h1
      | true =>
        rw [hb] at h1
        simp only [cond_true] at h1
        have hle := Nat.le_of_ble_eq_true hb
        have hsz : (a.eval x).cells.size = (T t).size := by rw [← Array.length_toList, h3, ← h2.len, hlen]
        obtain ⟨out, out', h5, h6, h7, h8⟩ := fillS_sound hT he hplace ps _ _ K h1 (hv.putAt off (T t).size h2) (by rw [putAt_length (by omega) hlen, hN])
        refine ⟨out, out', h5, h6, h7, ?_⟩
        rw [List.map_cons, fill_put (hplace i t off hf) hsz (by simp [← hv.len, hN]; exact hle), h3]
        exact h8
    · simp at h

theorem fillA_sound {T : TT} (hT : TOk P T) {L : Nat} (he : EnvR ρ L e a.tmps) {el : Nat} {N : Nat} {place : Nat → Option (Nat × Nat)}
    (hplace : ∀ (i : Nat), place i = some (i * (T el).size, (T el).size)) :
    ∀ (ps : List (Nat × Operand)) (cs cs' : List Value) (K : List Value → Option R), fillA T el e N ps cs K = some r → VRs ρ L cs cs' → cs.length = N →
      ∃ out out', K out = some r ∧ VRs ρ L out out' ∧ out.length = N ∧ Instr.fill place ⟨cs'⟩ (ps.map fun x => (x.1, a.eval x.2)) = some ⟨out'⟩
  | [], cs, cs', K, h, hv, hN => ⟨cs, cs', h, hv, hN, rfl⟩
  | (i, x) :: ps, cs, cs', K, h, hv, hN => by
    simp only [fillA, gN_eq] at h
    split at h
    · rename_i v hx
      have hx' := opnd_sound he hx
      obtain ⟨hne, vs, vs', h1, h2, h3, h4⟩ := cellsT_sound h hx'
      have hlen := h4.len hT hne
      cases hb : Nat.ble (i * (T el).size + (T el).size) N with
      | false => rw [hb] at h1; simp at h1
      | true =>
        rw [hb] at h1
        simp only [cond_true] at h1
        have hle := Nat.le_of_ble_eq_true hb
        have hsz : (a.eval x).cells.size = (T el).size := by rw [← Array.length_toList, h3, ← h2.len, hlen]
        obtain ⟨out, out', h5, h6, h7, h8⟩ := fillA_sound hT he hplace ps _ _ K h1 (hv.putAt _ (T el).size h2) (by rw [putAt_length (by omega) hlen, hN])
        refine ⟨out, out', h5, h6, h7, ?_⟩
        rw [List.map_cons, fill_put (hplace i) hsz (by simp [← hv.len, hN]; exact hle), h3]
        exact h8
    · simp at h

theorem mapM_run {α β : Type} (f : α → Sem β) (g : α → β) : ∀ (l : List α), (∀ x ∈ l, (f x).run P w = .ok (g x) w) → (l.mapM f).run P w = .ok (l.map g) w
  | [], _ => by simp
  | x :: l, h => by
    rw [List.mapM_cons]
    simp [h x (by simp), mapM_run f g l (fun y hy => h y (by simp [hy]))]

theorem op_build (hs : St P C.T ρ e m a w) {t : TypeId} {ps : Array (Nat × Operand)} (h : oper C (.build t ps) e m K = some r) : ∃ v m', K v m' = some r ∧ Did P a ⟨dst, .build t ps, ty, pos, after, guard⟩ ρ m w v m' := by
  simp only [oper] at h
  split at h
  · rename_i fs hd
    have ht := hs.tok t (by rw [hd]; simp)
    have hdd := ht.desc
    rw [hd] at hdd
    obtain ⟨fields, hu, hmap, hall⟩ := hdd
    obtain ⟨z, hz, hz2⟩ := ht.zero w
    have hplaces : (fields.mapM fun f => do pure (f.offset, ← sizeOf f.type) : Sem (Array (Nat × Nat))).run P w = .ok ((fields.toList.map fun f => (f.offset, (C.T f.type).size)).toArray) w := by
      rw [Array.mapM_eq_mapM_toList]
      simp only [Sem.run_map]
      rw [mapM_run (P := P) (w := w) _ (fun f => (f.offset, (C.T f.type).size))]
      · simp
      · intro f hf
        have : (f.type, f.offset) ∈ fs := by rw [← hmap]; exact List.mem_map.2 ⟨f, hf, rfl⟩
        have h1 := (hs.tok f.type (hall _ this)).size w
        simp [h1]
    obtain ⟨out, out', h1, h2, h3, h4⟩ := fillS_sound (P := P) (place := fun i => (fields.toList.map fun f => (f.offset, (C.T f.type).size)).toArray[i]?) hs.tok hs.env (by
      intro i t' off hi
      rw [← hmap, List.getElem?_map] at hi
      obtain ⟨fd, hfd, hfd2⟩ := Option.map_eq_some_iff.1 hi
      simp only [Prod.mk.injEq] at hfd2
      obtain ⟨rfl, rfl⟩ := hfd2
      simp [hfd]) _ _ _ _ h (VRs.plain (ρ := ρ) (L := m.length) ht.plain) ht.zlen
    refine ⟨_, m, h1, .here hs.mem (v' := .agg ⟨out'⟩) ?_ (VR.agg_iff.2 h2)⟩
    have e1 : z.cells = ⟨(C.T t).zero⟩ := by apply Array.toList_inj.1; exact hz2
    have e2 : (ps.map fun x => (x.1, a.eval x.2)).toList = ps.toList.map fun x => (x.1, a.eval x.2) := by simp
    simp only [execOp, Instr.build, Sem.run_bind, hz, Result.andThen_ok, under w hu, hplaces, e1]
    rw [show (ps.map fun (x : Nat × Operand) => match x with | (i, x) => (i, a.eval x)) = ps.map fun x => (x.1, a.eval x.2) from rfl, e2, h4]
    rfl
  · rename_i n el hd
    have ht := hs.tok t (by rw [hd]; simp)
    have hdd := ht.desc
    rw [hd] at hdd
    obtain ⟨z, hz, hz2⟩ := ht.zero w
    have hsz := (hs.tok el hdd.2).size w
    obtain ⟨out, out', h1, h2, h3, h4⟩ := fillA_sound (P := P) (place := fun i => some (i * (C.T el).size, (C.T el).size)) hs.tok hs.env (fun i => rfl) _ _ _ _ h (VRs.plain (ρ := ρ) (L := m.length) ht.plain) ht.zlen
    refine ⟨_, m, h1, .here hs.mem (v' := .agg ⟨out'⟩) ?_ (VR.agg_iff.2 h2)⟩
    have e1 : z.cells = ⟨(C.T t).zero⟩ := by apply Array.toList_inj.1; exact hz2
    have e2 : (ps.map fun x => (x.1, a.eval x.2)).toList = ps.toList.map fun x => (x.1, a.eval x.2) := by simp
    simp only [execOp, Instr.build, Sem.run_bind, hz, Result.andThen_ok, under w hdd.1, hsz, e1]
    rw [show (ps.map fun (x : Nat × Operand) => match x with | (i, x) => (i, a.eval x)) = ps.map fun x => (x.1, a.eval x.2) from rfl, e2, h4]
    rfl
  · simp at h

theorem op_buildSlice (hs : St P C.T ρ e m a w) {t : TypeId} {n : Nat} {ps : Array (Nat × Operand)} (h : oper C (.buildSlice t n ps) e m K = some r) : ∃ v m', K v m' = some r ∧ Did P a ⟨dst, .buildSlice t n ps, ty, pos, after, guard⟩ ρ m w v m' := by
  simp only [oper] at h
  split at h
  · rename_i el hd
    have ht := hs.tok t (by rw [hd]; simp)
    have hdd := ht.desc
    rw [hd] at hdd
    have hte := hs.tok el hdd.2
    obtain ⟨z, hz, hz2⟩ := hte.zero w
    have hsz := hte.size w
    cases hb : Nat.ble (n * (C.T el).size) 16777216 with
    | false => rw [hb] at h; simp at h
    | true =>
      rw [hb] at h
      simp only [cond_true] at h
      have hle := Nat.le_of_ble_eq_true hb
      obtain ⟨out, out', h1, h2, h3, h4⟩ := fillA_sound (P := P) (place := fun i => some (i * (C.T el).size, (C.T el).size)) hs.tok hs.env (fun i => rfl) _ _ _ _ h (VRs.plain (ρ := ρ) (L := m.length) (repl_plain (n := n) hte.plain)) (by rw [repl_length, hte.zlen])
      obtain ⟨ρ', h5, h6, h7, _⟩ := new_obj hs.mem h2 el
      refine ⟨_, _, h1, .slice (some ⟨w.heap.size, 0, none⟩) n n, _, ρ', .inl ?_, VR.newSl h7 (Nat.le_refl _), h5, h6⟩
      have e1 : z.cells = ⟨(C.T el).zero⟩ := by apply Array.toList_inj.1; exact hz2
      have e2 : (ps.map fun x => (x.1, a.eval x.2)).toList = ps.toList.map fun x => (x.1, a.eval x.2) := by simp
      have e3 : (Array.range (n * (C.T el).size)).map (((⟨(C.T el).zero⟩ : Array Value))[· % (⟨(C.T el).zero⟩ : Array Value).size]!) = ⟨repl n (C.T el).zero⟩ := by
        apply Array.toList_inj.1
        have := repl_range n ⟨(C.T el).zero⟩
        rw [← this]
        simp [hte.zlen]
      have hn : ¬ (n * (C.T el).size > 2 ^ 24) := by omega
      simp only [execOp, Instr.buildSlice, Sem.run_bind, under w hdd.1, Result.andThen_ok, hsz, if_neg hn, Sem.run_pure]
      by_cases h0 : n * (C.T el).size = 0
      · simp only [if_pos h0, Sem.run_bind, Sem.run_pure, Result.andThen_ok]
        have e4 : (Array.range (n * (C.T el).size)).map ((#[] : Array Value)[· % (#[] : Array Value).size]!) = ⟨repl n (C.T el).zero⟩ := by
          apply Array.toList_inj.1
          rw [h0]
          have : (repl n (C.T el).zero) = [] := by
            apply List.eq_nil_of_length_eq_zero; rw [repl_length, hte.zlen, h0]
          rw [this]; simp
        rw [e4, show (ps.map fun (x : Nat × Operand) => match x with | (i, x) => (i, a.eval x)) = ps.map fun x => (x.1, a.eval x.2) from rfl, e2, h4]
        rfl
      · simp only [if_neg h0, Sem.run_bind, hz, Result.andThen_ok, Sem.run_pure, e1]
        rw [e3, show (ps.map fun (x : Nat × Operand) => match x with | (i, x) => (i, a.eval x)) = ps.map fun x => (x.1, a.eval x.2) from rfl, e2, h4]
        rfl
  · simp at h
end
end Go.Mx
