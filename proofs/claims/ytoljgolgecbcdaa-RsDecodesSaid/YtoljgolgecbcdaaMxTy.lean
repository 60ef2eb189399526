/- The clean memory against the model: types, and what is loaded, stored and taken out by type. -/
import Derived.Test.YtoljgolgecbcdaaMxRep
set_option linter.unusedVariables false
set_option linter.unusedSimpArgs false
namespace Go.Mx

def descOk (P : Program) (T : TT) (t : Nat) : TD → Prop
  | .int k => P.underlying t = some (.int k)
  | .bool => P.underlying t = some .bool
  | .str => P.underlying t = some .string
  | .ptr e => P.underlying t = some (.pointer e)
  | .slice e => P.underlying t = some (.slice e) ∧ (T e).d ≠ .other
  | .map => ∃ k e, P.underlying t = some (.map k e)
  | .struct fs => ∃ fields, P.underlying t = some (.struct fields) ∧ fields.toList.map (fun f => (f.type, f.offset)) = fs ∧ ∀ f ∈ fs, (T f.1).d ≠ .other
  | .array n e => P.underlying t = some (.array n e) ∧ (T e).d ≠ .other
  | .iface => ∃ ms, P.underlying t = some (.interface ms)
  | .fn => ∃ a b c, P.underlying t = some (.func a b c)
  | .other => False

def notOther : TD → Bool
  | .other => false
  | _ => true
theorem notOther_ne {d : TD} (h : notOther d = true) : d ≠ .other := by cases d <;> simp_all [notOther]
/-- a struct's parts lie one behind the other, and each is compared -/
def eqFs (rec : TypeId → List EK → Bool) (T : TT) : List Field → Nat → List EK → Bool
  | [], _, ks => ks.isEmpty
  | g :: gs, off, ks => (g.name != "_") && Nat.beq g.offset off && notOther (T g.type).d && Nat.ble (T g.type).size ks.length && rec g.type (ks.take (T g.type).size) && eqFs rec T gs (off + (T g.type).size) (ks.drop (T g.type).size)
def eqTy (P : Program) (T : TT) : Nat → TypeId → List EK → Bool
  | 0, _, _ => false
  | f + 1, t, ks => match P.underlying t with
    | some .bool => decide (ks = [.bool])
    | some (.int k) => decide (ks = [.int k])
    | some .string => decide (ks = [.str])
    | some (.struct fs) => !(P.stoodInHeld t) && Nat.beq ks.length (T t).size && eqFs (eqTy P T f) T fs.toList 0 ks
    | some (.array n e) => notOther (T e).d && Nat.beq ks.length (T t).size && Nat.beq ks.length (n * (T e).size) && (List.range n).all fun i => eqTy P T f e ((ks.drop (i * (T e).size)).take (T e).size)
    | _ => false

def agg? : TD → Bool
  | .struct _ | .array _ _ => true
  | _ => false

structure TyOk (P : Program) (T : TT) (t : Nat) : Prop where
  info : ∃ i, P.info? t = some i ∧ i.size = (T t).size ∧ i.bytes = (T t).bytes ∧ ∃ z, i.zero = some z ∧ z.cells.toList = (T t).zero
  plain : ∀ v ∈ (T t).zero, plainV v = true
  zlen : (T t).zero.length = (T t).size
  one : agg? (T t).d = false → (T t).size = 1
  cmp : ∀ k, (T t).d = .int k → ∃ i, P.info? t = some i ∧ i.comparable = true
  desc : descOk P T t (T t).d
  eqv : ∀ ks, (T t).eq = some ks → eqTy P T 30 t ks = true ∧ P.eqGuardType P.depth t = false

def TOk (P : Program) (T : TT) : Prop := ∀ t, (T t).d ≠ .other → TyOk P T t


section
variable {P : Program} {T : TT} {t : Nat}

theorem TyOk.size (h : TyOk P T t) (w : World) : (sizeOf t).run P w = .ok (T t).size w := by
  obtain ⟨i, h1, h2, _⟩ := h.info
  simp [sizeOf, typeInfo, h1, h2]
theorem TyOk.typeInfo (h : TyOk P T t) (w : World) : ∃ i, (typeInfo t).run P w = .ok i w ∧ i.size = (T t).size ∧ i.bytes = (T t).bytes := by
  obtain ⟨i, h1, h2, h3, _⟩ := h.info
  exact ⟨i, by simp [Go.typeInfo, h1], h2, h3⟩
theorem TyOk.zero (h : TyOk P T t) (w : World) : ∃ z, (zeroValue t).run P w = .ok z w ∧ z.cells.toList = (T t).zero := by
  obtain ⟨i, h1, h2, h3, z, h4, h5⟩ := h.info
  exact ⟨z, by simp [zeroValue, Go.typeInfo, h1, h4], h5⟩
theorem under (w : World) {d : TypeDesc} (h : P.underlying t = some d) : (underlying t).run P w = .ok d w := by
  simp [Go.underlying, h]
theorem TyOk.isAgg (h : TyOk P T t) (w : World) : (isAgg t).run P w = .ok (agg? (T t).d) w := by
  have hd := h.desc
  unfold Go.isAgg
  cases hk : (T t).d <;> rw [hk] at hd <;> simp only [descOk] at hd
  case int k => simp [under w hd, agg?]
  case bool => simp [under w hd, agg?]
  case str => simp [under w hd, agg?]
  case ptr e => simp [under w hd, agg?]
  case slice e => simp [under w hd.1, agg?]
  case map => obtain ⟨a, b, hd⟩ := hd; simp [under w hd, agg?]
  case struct fs => obtain ⟨a, hd, _⟩ := hd; simp [under w hd, agg?]
  case array n e => simp [under w hd.1, agg?]
  case iface => obtain ⟨a, hd⟩ := hd; simp [under w hd, agg?]
  case fn => obtain ⟨a, b, c, hd⟩ := hd; simp [under w hd, agg?]

theorem part_one {cs : Array Value} {i : Nat} {v : Value} (h : TyOk P T t) (ha : agg? (T t).d = false) (hv : cs[i]? = some v) (w : World) : (part t cs i).run P w = .ok v w := by
  unfold part
  simp [h.isAgg w, ha, hv]
theorem part_agg {cs : Array Value} {i : Nat} (h : TyOk P T t) (ha : agg? (T t).d = true) (w : World) : (part t cs i).run P w = .ok (.agg (cs.extract i (i + (T t).size))) w := by
  unfold part
  simp [h.isAgg w, ha, h.size w]
theorem loadVar_one {a : Addr} {v : Value} (h : TyOk P T t) (ha : agg? (T t).d = false) {w : World} (hv : w.cell? a = some v) : (loadVar t a).run P w = .ok v w := by
  unfold loadVar
  simp only [Sem.run_bind, h.isAgg w, Result.andThen_ok, ha, Bool.false_eq_true, if_false]
  exact run_load_of hv
theorem loadVar_agg {a : Addr} {vs : Array Value} (h : TyOk P T t) (ha : agg? (T t).d = true) {w : World} (hv : (loadCells a (T t).size).run P w = .ok vs w) : (loadVar t a).run P w = .ok (.agg vs) w := by
  unfold loadVar
  simp [h.isAgg w, ha, h.size w, hv]
end

/-! ## a value of a type, out of cells -/
theorem cInt_of {k cs i n} (h : cInt k cs i = some n) : cs[i]? = some (.int k n) := by
  unfold cInt at h; split at h
  · split at h
    · rename_i h1 h2; subst h2; simp at h; subst h; exact h1
    · simp at h
  · simp at h
theorem cBool_of {cs i b} (h : cBool cs i = some b) : cs[i]? = some (.bool b) := by
  unfold cBool at h; split at h
  · rename_i h1; simp at h; subst h; exact h1
  · simp at h
theorem cPtr_of {cs i b} (h : cPtr cs i = some b) : cs[i]? = some (.pointer b) := by
  unfold cPtr at h; split at h
  · rename_i h1; simp at h; subst h; exact h1
  · simp at h
theorem cSl_of {cs i b} (h : cSl cs i = some b) : cs[i]? = some (.slice b.a b.len b.cap) := by
  unfold cSl at h; split at h
  · rename_i h1; simp at h; subst h; exact h1
  · simp at h
theorem cStr_of {cs i b} (h : cStr cs i = some b) : cs[i]? = some (.string b) := by
  unfold cStr at h; split at h
  · rename_i h1; simp at h; subst h; exact h1
  · simp at h
theorem cMap_of {cs i b} (h : cMap cs i = some b) : cs[i]? = some (.map b) := by
  unfold cMap at h; split at h
  · rename_i h1; simp at h; subst h; exact h1
  · simp at h

section
variable {P : Program} {T : TT} {t : Nat} {R : Type} {K : Value → Option R} {r : R}

/-- one cell, or a row of them -/
theorem getT_inv {cs : List Value} {i : Nat} (h : getT T t cs i K = some r) :
    ((T t).d ≠ .other) ∧ ((agg? (T t).d = false ∧ ∃ v, cs[i]? = some v ∧ K v = some r) ∨ (agg? (T t).d = true ∧ ∃ vs, cCells cs i (T t).size = some vs ∧ K (.agg ⟨vs⟩) = some r)) := by
  unfold getT at h
  cases hd : (T t).d <;> simp only [hd] at h <;> (try simp only [Option.bind_eq_some_iff] at h)
  case int k => obtain ⟨n, h1, h2⟩ := h; exact ⟨by simp, .inl ⟨rfl, _, cInt_of h1, h2⟩⟩
  case bool => obtain ⟨n, h1, h2⟩ := h; exact ⟨by simp, .inl ⟨rfl, _, cBool_of h1, h2⟩⟩
  case str => obtain ⟨n, h1, h2⟩ := h; exact ⟨by simp, .inl ⟨rfl, _, cStr_of h1, h2⟩⟩
  case ptr e => obtain ⟨n, h1, h2⟩ := h; exact ⟨by simp, .inl ⟨rfl, _, cPtr_of h1, h2⟩⟩
  case slice e => obtain ⟨n, h1, h2⟩ := h; exact ⟨by simp, .inl ⟨rfl, _, cSl_of h1, h2⟩⟩
  case map => obtain ⟨n, h1, h2⟩ := h; exact ⟨by simp, .inl ⟨rfl, _, cMap_of h1, h2⟩⟩
  case struct fs => obtain ⟨n, h1, h2⟩ := h; exact ⟨by simp, .inr ⟨rfl, _, h1, h2⟩⟩
  case array a b => obtain ⟨n, h1, h2⟩ := h; exact ⟨by simp, .inr ⟨rfl, _, h1, h2⟩⟩
  case iface => obtain ⟨n, h1, h2⟩ := h; exact ⟨by simp, .inl ⟨rfl, _, h1, h2⟩⟩
  case fn => obtain ⟨n, h1, h2⟩ := h; exact ⟨by simp, .inl ⟨rfl, _, h1, h2⟩⟩
  case other => simp at h

theorem ldT_eq (m : Mem) (a : Addr) : ldT T t m a K = (m.cells a.block).bind fun cs => getT T t cs a.off K := by
  unfold ldT getT ldInt ldBool ldPtr ldSl ldMap ldStr ldCells ldVal
  cases (T t).d <;> simp [Option.bind_assoc]

theorem getT_sound (hT : TOk P T) {ρ : Rn} {L : Nat} {cs cs' : List Value} {i : Nat} (h : getT T t cs i K = some r) (hc : VRs ρ L cs cs') (w : World) :
    ∃ v v', K v = some r ∧ VR ρ L v v' ∧ (part t ⟨cs'⟩ i).run P w = .ok v' w := by
  obtain ⟨hne, h⟩ := getT_inv h
  have ht := hT t hne
  rcases h with ⟨ha, v, h1, h2⟩ | ⟨ha, vs, h1, h2⟩
  · obtain ⟨v', h3, h4⟩ := hc.all i v h1
    exact ⟨v, v', h2, h4, part_one ht ha (by simpa using h3) w⟩
  · unfold cCells at h1
    split at h1
    · rename_i hle
      simp only [Option.some.injEq] at h1
      subst h1
      refine ⟨_, .agg ⟨(cs'.drop i).take (T t).size⟩, h2, VR.agg_iff.2 ((hc.drop i).take _), ?_⟩
      rw [part_agg ht ha w]
      congr 2
      apply Array.toList_inj.1
      rw [Array.toList_extract]
      simp [List.extract_eq_take_drop]
    · simp at h1

theorem ldT_sound (hT : TOk P T) {ρ : Rn} {m : Mem} {w : World} (hm : MRep ρ m w) {a : Addr} (h : ldT T t m a K = some r) :
    ∃ v v', K v = some r ∧ VR ρ m.length v v' ∧ (loadVar t (toR ρ a)).run P w = .ok v' w := by
  rw [ldT_eq, Option.bind_eq_some_iff] at h
  obtain ⟨cs, hcs, h⟩ := h
  obtain ⟨hne, h⟩ := getT_inv h
  have ht := hT t hne
  rcases h with ⟨ha, v, h1, h2⟩ | ⟨ha, vs, h1, h2⟩
  · obtain ⟨v', h3, h4⟩ := hm.cell hcs h1
    exact ⟨v, v', h2, h4, loadVar_one ht ha h3⟩
  · obtain ⟨vs', h3, h4, h5⟩ := hm.loadCells (P := P) hcs h1
    exact ⟨_, .agg ⟨vs'⟩, h2, VR.agg_iff.2 h4, loadVar_agg ht ha (h3 w rfl)⟩

/-! ## stores -/
theorem seg_step (cs : List Value) (i : Nat) (v : Value) (rest : List Value) (h : i + (rest.length + 1) ≤ cs.length) :
    (cs.set i v).take (i + 1) ++ rest ++ (cs.set i v).drop (i + 1 + rest.length) = cs.take i ++ v :: rest ++ cs.drop (i + (rest.length + 1)) := by
  have h1 : (cs.set i v).take (i + 1) = cs.take i ++ [v] := by
    rw [List.take_succ_eq_append_getElem (by simp; omega)]
    simp [List.take_set_of_le]
  have h2 : (cs.set i v).drop (i + 1 + rest.length) = cs.drop (i + (rest.length + 1)) := by
    rw [List.drop_set_of_lt (by omega)]
    congr 1; omega
  rw [h1, h2]; simp

theorem set_set_mem (m : Mem) (b : Nat) (x y : MObj) : (m.set b x).set b y = m.set b y := by simp

theorem MRep.storeCells {ρ : Rn} {b o : Nat} : ∀ (vs vs' : List Value) (i : Nat) (cs : List Value) (m : Mem) (w : World), MRep ρ m w → m.wcells b = some cs → o + i + vs.length ≤ cs.length → VRs ρ m.length vs vs' →
    ∃ w', (Go.storeCells ⟨ρ.blk b, ρ.sh b + o, none⟩ vs' i).run P w = .ok () w' ∧ MRep ρ (m.set b (.live (cs.take (o + i) ++ vs ++ cs.drop (o + i + vs.length)))) w' ∧
      Evo ρ m w ρ (m.set b (.live (cs.take (o + i) ++ vs ++ cs.drop (o + i + vs.length)))) w'
  | [], vs', i, cs, m, w, hm, hc, hl, hv => by
    have : vs' = [] := by
      have := hv.len
      cases vs' with
      | nil => rfl
      | cons _ _ => simp at this
    subst this
    refine ⟨w, rfl, ?_⟩
    have hself : m.set b (.live (cs.take (o + i) ++ [] ++ cs.drop (o + i + ([] : List Value).length))) = m := by
      simp only [List.append_nil, List.length_nil, Nat.add_zero, List.take_append_drop]
      apply List.ext_getElem?
      intro j
      rw [List.getElem?_set]
      split
      · rename_i h; subst h
        rw [if_pos (hm.wlt hc), wcells_iff.1 hc]
      · rfl
    rw [hself]
    exact ⟨hm, Evo.refl _ _ _⟩
  | v :: vs, vs', i, cs, m, w, hm, hc, hl, hv => by
    cases vs' with
    | nil => have := hv.len; simp at this
    | cons v' vs' =>
      simp only [List.length_cons] at hl
      have hv0 : VR ρ m.length v v' := by
        obtain ⟨x, h1, h2⟩ := hv.all 0 v rfl
        simp at h1; subst h1; exact h2
      have hone : isOne v = true := hv.one v (by simp)
      have hvs : VRs ρ m.length vs vs' := by
        refine ⟨by have := hv.len; simpa using this, fun x hx => hv.one x (by simp [hx]), fun j x hj => ?_⟩
        have := hv.all (j + 1) x (by simpa using hj)
        simpa using this
      obtain ⟨old, h1, h2, h3, h4⟩ := hm.setCell (o := o + i) hc (by omega) hv0 hone
      have hc' : Mem.wcells (m.set b (.live (cs.set (o + i) v))) b = some (cs.set (o + i) v) := by
        rw [wcells_iff, List.getElem?_set]
        simp [hm.wlt hc]
      obtain ⟨w', h5, h6, h7⟩ := MRep.storeCells (o := o) vs vs' (i + 1) (cs.set (o + i) v) _ _ h3 hc' (by simp; omega) (by simpa using hvs)
      have e : (cs.set (o + i) v).take (o + (i + 1)) ++ vs ++ (cs.set (o + i) v).drop (o + (i + 1) + vs.length) = cs.take (o + i) ++ v :: vs ++ cs.drop (o + i + (v :: vs).length) := by
        have := seg_step cs (o + i) v vs (by omega)
        rw [List.length_cons]
        rw [show o + (i + 1) = o + i + 1 by omega]
        exact this
      rw [set_set_mem, e] at h6 h7
      refine ⟨w', ?_, h6, h4.trans h7⟩
      have hst : (store (⟨ρ.blk b, ρ.sh b + (o + i), none⟩ : Addr) v').run P w = .ok () (w.setCell ⟨ρ.blk b, ρ.sh b + (o + i), none⟩ v') := by
        rw [run_store P w _ v' .plain (by rw [← hv0.one]; exact hone), h1]
        simp [h2]
      rw [Go.storeCells, add_none, Nat.add_assoc, Sem.run_bind, hst]
      exact h5

theorem st_inv {m m' : Mem} {a : Addr} {v : Value} (h : st m a v = some m') : ∃ cs, m.wcells a.block = some cs ∧ a.off < cs.length ∧ m' = m.set a.block (.live (cs.set a.off v)) := by
  unfold st at h
  simp only [Option.bind_eq_some_iff] at h
  obtain ⟨cs, h1, cs', h2, h3⟩ := h
  unfold setCell at h2
  split at h2
  · rename_i hlt
    simp at h2 h3
    exact ⟨cs, h1, hlt, by rw [← h3, ← h2]⟩
  · simp at h2
theorem stCells_inv {m m' : Mem} {a : Addr} {vs : List Value} (h : stCells m a vs = some m') : ∃ cs, m.wcells a.block = some cs ∧ a.off + vs.length ≤ cs.length ∧ m' = m.set a.block (.live (cs.take a.off ++ vs ++ cs.drop (a.off + vs.length))) := by
  unfold stCells at h
  simp only [Option.bind_eq_some_iff] at h
  obtain ⟨cs, h1, cs', h2, h3⟩ := h
  unfold setCells at h2
  split at h2
  · rename_i hlt
    simp only [Option.some.injEq] at h2 h3
    exact ⟨cs, h1, hlt, by rw [← h3, ← h2]⟩
  · simp at h2

theorem stCells_sound {ρ : Rn} {m m' : Mem} {w : World} (hm : MRep ρ m w) {a : Addr} {vs vs' : List Value} (h : stCells m a vs = some m') (hv : VRs ρ m.length vs vs') :
    ∃ w', (Go.storeCells (toR ρ a) vs').run P w = .ok () w' ∧ MRep ρ m' w' ∧ Evo ρ m w ρ m' w' := by
  obtain ⟨cs, h1, h2, rfl⟩ := stCells_inv h
  have := MRep.storeCells (P := P) (o := a.off) vs vs' 0 cs m w hm h1 (by omega) hv
  simpa [toR] using this

theorem storeVar_run {a : Addr} {v' : Value} {w : World} (ht : TyOk P T t) (hsz : v'.cells.size = (T t).size) : (storeVar t a v').run P w = (Go.storeCells a v'.cells.toList).run P w := by
  unfold storeVar
  simp [ht.size w, hsz]

theorem cells_one {v : Value} (h : isOne v = true) : v.cells = #[v] := by
  cases v <;> first | rfl | simp [isOne] at h
theorem cells_one' {v : Value} (h : v.oneCell' = true) : v.cells = #[v] := by
  cases v <;> first | rfl | simp [Value.oneCell'] at h


/-- so many as the type has -/
def CL (T : TT) (t : Nat) (cs : List Value) : Prop := cs.length = (T t).size ∨ (agg? (T t).d = false ∧ cs.length = 1)
/-- the cells of a value -/
theorem cellsT_sound {v v' : Value} {ρ : Rn} {L : Nat} {K : List Value → Option R} (h : cellsT T t v K = some r) (hv : VR ρ L v v') :
    (T t).d ≠ .other ∧ ∃ cs cs', K cs = some r ∧ VRs ρ L cs cs' ∧ v'.cells.toList = cs' ∧ CL T t cs := by
  have one : ∀ (hK : K [v] = some r) (h1 : isOne v = true) (ha : agg? (T t).d = false), ∃ cs cs', K cs = some r ∧ VRs ρ L cs cs' ∧ v'.cells.toList = cs' ∧ CL T t cs := by
    intro hK h1 ha
    refine ⟨[v], [v'], hK, .cons hv h1 .nil, ?_, .inr ⟨ha, rfl⟩⟩
    rw [cells_one' (by rw [← hv.one]; exact h1)]
  have hagg : ∀ (ha : agg? (T t).d = true) (cs : Array Value) (hvc : v = .agg cs) (h9 : (bif Nat.beq cs.toList.length (T t).size then K cs.toList else none) = some r),
      ∃ cs cs', K cs = some r ∧ VRs ρ L cs cs' ∧ v'.cells.toList = cs' ∧ CL T t cs := by
    intro ha cs hvc h9
    subst hvc
    cases hb : Nat.beq cs.toList.length (T t).size with
    | false => rw [hb] at h9; simp at h9
    | true =>
      rw [hb] at h9
      obtain ⟨cs', rfl, h2⟩ := hv.agg_inv
      exact ⟨_, cs', h9, h2, rfl, .inl (Nat.eq_of_beq_eq_true hb)⟩
  unfold cellsT at h
  cases hd : (T t).d <;> simp only [hd] at h
  case other => simp at h
  case struct fs =>
    cases v <;> simp only [reduceCtorEq] at h
    exact ⟨by simp, by exact hagg (by rw [hd]; rfl) _ rfl h⟩
  case array a b =>
    cases v <;> simp only [reduceCtorEq] at h
    exact ⟨by simp, by exact hagg (by rw [hd]; rfl) _ rfl h⟩
  case iface =>
    cases h1 : isOne v with
    | false => rw [h1] at h; simp at h
    | true => rw [h1] at h; exact ⟨by simp, by exact one h h1 (by rw [hd]; rfl)⟩
  case fn =>
    cases h1 : isOne v with
    | false => rw [h1] at h; simp at h
    | true => rw [h1] at h; exact ⟨by simp, by exact one h h1 (by rw [hd]; rfl)⟩
  all_goals
    refine ⟨by simp, ?_⟩
    cases v <;> simp only [reduceCtorEq] at h <;> exact one h rfl (by rw [hd]; rfl)

theorem stT_eq (m : Mem) (a : Addr) (v : Value) (K : Mem → Option R) : stT T t m a v K = cellsT T t v fun cs => match agg? (T t).d with
    | true => (stCells m a cs).bind K
    | false => match cs with | [x] => (st m a x).bind K | _ => none := by
  unfold stT cellsT
  cases hd : (T t).d <;> simp only [agg?] <;> cases v <;> rfl

theorem stT_sound (hT : TOk P T) {ρ : Rn} {m : Mem} {w : World} (hm : MRep ρ m w) {a : Addr} {v v' : Value} {K : Mem → Option R} (h : stT T t m a v K = some r) (hv : VR ρ m.length v v') :
    ∃ m' w', K m' = some r ∧ (storeVar t (toR ρ a) v').run P w = .ok () w' ∧ MRep ρ m' w' ∧ Evo ρ m w ρ m' w' := by
  rw [stT_eq] at h
  obtain ⟨hne, cs, cs', h1, h2, h3, h4⟩ := cellsT_sound h hv
  have ht := hT t hne
  have hsz : v'.cells.size = (T t).size := by
    rw [← Array.length_toList, h3, ← h2.len]
    rcases h4 with h4 | ⟨h4, h5⟩
    · exact h4
    · rw [h5, ht.one h4]
  rw [storeVar_run ht hsz, h3]
  cases ha : agg? (T t).d with
  | true =>
    rw [ha] at h1
    simp only [Option.bind_eq_some_iff] at h1
    obtain ⟨m', h5, h6⟩ := h1
    obtain ⟨w', h7, h8, h9⟩ := stCells_sound (P := P) hm h5 h2
    exact ⟨m', w', h6, h7, h8, h9⟩
  | false =>
    obtain ⟨x, rfl⟩ : ∃ x, cs = [x] := by
      have h9 : cs.length = 1 := by
        rcases h4 with h4 | ⟨h4, h5⟩
        · rw [h4, ht.one ha]
        · exact h5
      match cs, h9 with
      | [x], _ => exact ⟨x, rfl⟩
    · simp only [ha, Option.bind_eq_some_iff] at h1
      obtain ⟨m', h5, h6⟩ := h1
      have h7 : stCells m a [x] = some m' := by
        obtain ⟨c, e1, e2, rfl⟩ := st_inv h5
        unfold stCells setCells
        rw [e1]
        simp only [Option.bind_some, List.length_cons, List.length_nil]
        rw [if_pos (by omega)]
        simp only [Option.bind_some, Option.some.injEq]
        congr 2
        rw [List.set_eq_take_append_cons_drop, if_pos e2]
        simp
      obtain ⟨w', h7, h8, h9⟩ := stCells_sound (P := P) hm h7 h2
      exact ⟨m', w', h6, h7, h8, h9⟩
end
end Go.Mx
