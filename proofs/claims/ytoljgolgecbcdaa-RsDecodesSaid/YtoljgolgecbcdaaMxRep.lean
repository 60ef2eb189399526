/- The clean memory against the model's heap: what stands for what, and that loads, stores and new objects keep it so. -/
import Derived.Test.YtoljgolgecbcdaaMxDefs
import Derived.Laws.Sem
import Derived.Laws.Cells
set_option linter.unusedVariables false
namespace Go.Mx

structure Rn where
  blk : Nat → Nat
  sz : Nat → Nat
  sh : Nat → Nat    -- how far on in its row an object begins

def toR (ρ : Rn) (a : Addr) : Addr := ⟨ρ.blk a.block, ρ.sh a.block + a.off, none⟩
structure Rn.Same (ρ' ρ : Rn) (n : Nat) : Prop where
  blk : ρ'.blk n = ρ.blk n
  sz : ρ'.sz n = ρ.sz n
  sh : ρ'.sh n = ρ.sh n

def SlOk (ρ : Rn) (a a' : Addr) (n c c' : Nat) : Prop :=
  (c' = 0 ∨ a' = toR ρ a) ∧ n ≤ c' ∧ (a.spot = none → c' = c) ∧ ∀ z, a.spot = some z → c ≤ c' ∧ ρ.sh a.block + (a.off + c' * z) ≤ ρ.sz a.block

inductive VR (ρ : Rn) (L : Nat) : Value → Value → Prop
  | bool (b : Bool) : VR ρ L (.bool b) (.bool b)
  | int (k : IntKind) (n : Int) : VR ρ L (.int k n) (.int k n)
  | str (s : ByteArray) : VR ρ L (.string s) (.string s)
  | ptr0 : VR ρ L (.pointer none) (.pointer none)
  | ptr (a : Addr) : a.block < L → VR ρ L (.pointer (some a)) (.pointer (some (toR ρ a)))
  | sl0 : VR ρ L (.slice none 0 0) (.slice none 0 0)
  | sl (a a' : Addr) (n c c' : Nat) : a.block < L → SlOk ρ a a' n c c' → VR ρ L (.slice (some a) n c) (.slice (some a') n c')
  | map0 : VR ρ L (.map none) (.map none)
  | map (r : Nat) : r < L → VR ρ L (.map (some r)) (.map (some (ρ.blk r)))
  | nilFunc : VR ρ L .nilFunc .nilFunc
  | fn (f : FuncId) (a a' b b' : List Value) : a.length = a'.length → b.length = b'.length → (∀ i, i < a.length → VR ρ L (a.getD i undef) (a'.getD i undef)) → (∀ i, i < b.length → VR ρ L (b.getD i undef) (b'.getD i undef)) → VR ρ L (.func (.func f) ⟨a⟩ ⟨b⟩) (.func (.func f) ⟨a'⟩ ⟨b'⟩)
  | nilIface : VR ρ L .nilIface .nilIface
  | iface (t : TypeId) (v v' : Value) : VR ρ L v v' → VR ρ L (.iface t v) (.iface t v')
  | agg (cs cs' : List Value) : cs.length = cs'.length → (∀ i, i < cs.length → isOne (cs.getD i undef) = true) → (∀ i, i < cs.length → VR ρ L (cs.getD i undef) (cs'.getD i undef)) → VR ρ L (.agg ⟨cs⟩) (.agg ⟨cs'⟩)
  | tuple (cs cs' : List Value) : cs.length = cs'.length → (∀ i, i < cs.length → VR ρ L (cs.getD i undef) (cs'.getD i undef)) → VR ρ L (.tuple ⟨cs⟩) (.tuple ⟨cs'⟩)

/-- lists of cells -/
structure VRs (ρ : Rn) (L : Nat) (cs cs' : List Value) : Prop where
  len : cs.length = cs'.length
  one : ∀ v ∈ cs, isOne v = true
  all : ∀ (i : Nat) v, cs[i]? = some v → ∃ v', cs'[i]? = some v' ∧ VR ρ L v v'

theorem VR.one {ρ L v v'} (h : VR ρ L v v') : isOne v = v'.oneCell' := by
  cases h <;> rfl

theorem getD_of_get? {l : List Value} {i : Nat} {v : Value} (h : l[i]? = some v) : l.getD i undef = v := by
  simp [List.getD, h]

theorem VR.agg_iff {ρ L} {cs cs' : List Value} : VR ρ L (.agg ⟨cs⟩) (.agg ⟨cs'⟩) ↔ VRs ρ L cs cs' := by
  constructor
  · intro h
    cases h with
    | agg _ _ h1 h2 h3 =>
      refine ⟨h1, fun v hv => ?_, fun i v hi => ?_⟩
      · obtain ⟨i, hi, rfl⟩ := List.mem_iff_getElem.1 hv
        have := h2 i hi
        simpa [List.getD, hi] using this
      · have hlt : i < cs.length := by
          rcases Nat.lt_or_ge i cs.length with h | h
          · exact h
          · simp [List.getElem?_eq_none h] at hi
        have h4 := h3 i hlt
        rw [getD_of_get? hi] at h4
        refine ⟨cs'.getD i undef, ?_, h4⟩
        have : i < cs'.length := by omega
        simp [List.getD, this]
  · intro h
    refine .agg _ _ h.len (fun i hi => ?_) (fun i hi => ?_)
    · have : cs[i]? = some cs[i] := by simp [hi]
      rw [getD_of_get? this]
      exact h.one _ (List.getElem_mem hi)
    · have : cs[i]? = some cs[i] := by simp [hi]
      obtain ⟨v', h1, h2⟩ := h.all i _ this
      rw [getD_of_get? this, getD_of_get? h1]
      exact h2

theorem VR.agg_inv {ρ L} {cs : Array Value} {v' : Value} (h : VR ρ L (.agg cs) v') : ∃ cs', v' = .agg ⟨cs'⟩ ∧ VRs ρ L cs.toList cs' := by
  cases h with
  | agg cs cs' h1 h2 h3 => exact ⟨cs', rfl, VR.agg_iff.1 (.agg _ _ h1 h2 h3)⟩

theorem VR.mono {ρ ρ' : Rn} {L L' : Nat} (ha : ∀ n, n < L → ρ'.Same ρ n) (hl : L ≤ L') {v v' : Value} (h : VR ρ L v v') : VR ρ' L' v v' := by
  have hto : ∀ a : Addr, a.block < L → toR ρ' a = toR ρ a := fun a h => by simp [toR, (ha _ h).blk, (ha _ h).sh]
  induction h with
  | bool b => exact .bool b
  | int k n => exact .int k n
  | str s => exact .str s
  | ptr0 => exact .ptr0
  | ptr a h => rw [← hto a h]; exact .ptr a (by omega)
  | sl0 => exact .sl0
  | sl a a' n c c' h hs =>
    refine .sl a a' n c c' (by omega) ?_
    unfold SlOk at *
    rw [hto a h, (ha _ h).sz, (ha _ h).sh]
    exact hs
  | map0 => exact .map0
  | map r h => rw [← (ha r h).blk]; exact .map r (by omega)
  | nilFunc => exact .nilFunc
  | fn f a a' b b' h1 h2 _ _ ih1 ih2 => exact .fn f a a' b b' h1 h2 ih1 ih2
  | nilIface => exact .nilIface
  | iface t v v' _ ih => exact .iface t v v' ih
  | agg cs cs' h1 h2 _ ih => exact .agg cs cs' h1 h2 ih
  | tuple cs cs' h1 _ ih => exact .tuple cs cs' h1 ih

theorem VRs.mono {ρ ρ' : Rn} {L L' : Nat} (ha : ∀ n, n < L → ρ'.Same ρ n) (hl : L ≤ L') {cs cs' : List Value} (h : VRs ρ L cs cs') : VRs ρ' L' cs cs' :=
  ⟨h.len, h.one, fun i v hi => let ⟨v', h1, h2⟩ := h.all i v hi; ⟨v', h1, h2.mono ha hl⟩⟩

theorem VR.plain {ρ L v} (h : plainV v = true) : VR ρ L v v := by
  cases v <;> simp [plainV] at h
  case bool b => exact .bool b
  case int k n => exact .int k n
  case string s => exact .str s
  case pointer p => cases p with
    | none => exact .ptr0
    | some a => simp at h
  case slice p n c =>
    split at h <;> simp_all
    exact .sl0
  case map r => cases r with
    | none => exact .map0
    | some a => simp at h
  case nilFunc => exact .nilFunc
  case nilIface => exact .nilIface

theorem VRs.nil {ρ L} : VRs ρ L [] [] := ⟨rfl, by simp, by simp⟩
theorem VRs.cons {ρ L v v' cs cs'} (h : VR ρ L v v') (h1 : isOne v = true) (hs : VRs ρ L cs cs') : VRs ρ L (v :: cs) (v' :: cs') := by
  refine ⟨by simp [hs.len], ?_, ?_⟩
  · intro x hx
    rcases List.mem_cons.1 hx with rfl | hx
    · exact h1
    · exact hs.one x hx
  · intro i x hi
    cases i with
    | zero => simp at hi; subst hi; exact ⟨v', by simp, h⟩
    | succ i => simp at hi; simpa using hs.all i x hi
theorem VRs.append {ρ L as as' bs bs'} (h : VRs ρ L as as') (hs : VRs ρ L bs bs') : VRs ρ L (as ++ bs) (as' ++ bs') := by
  refine ⟨by simp [h.len, hs.len], ?_, ?_⟩
  · intro x hx
    rcases List.mem_append.1 hx with hx | hx
    · exact h.one x hx
    · exact hs.one x hx
  · intro i x hi
    rw [List.getElem?_append] at hi
    rw [List.getElem?_append, ← h.len]
    split at hi
    · rename_i hlt
      rw [if_pos hlt]; exact h.all i x hi
    · rename_i hlt
      rw [if_neg hlt]; exact hs.all _ x hi
theorem VRs.take {ρ L as as'} (n : Nat) (h : VRs ρ L as as') : VRs ρ L (as.take n) (as'.take n) := by
  refine ⟨by simp [h.len], fun v hv => h.one v (List.mem_of_mem_take hv), ?_⟩
  intro i x hi
  rw [List.getElem?_take] at hi ⊢
  split at hi
  · rename_i hlt; rw [if_pos hlt]; exact h.all i x hi
  · simp at hi
theorem VRs.drop {ρ L as as'} (n : Nat) (h : VRs ρ L as as') : VRs ρ L (as.drop n) (as'.drop n) := by
  refine ⟨by simp [h.len], fun v hv => h.one v (List.mem_of_mem_drop hv), ?_⟩
  intro i x hi
  rw [List.getElem?_drop] at hi ⊢
  exact h.all _ x hi
theorem VRs.plain {ρ L cs} (h : ∀ v ∈ cs, plainV v = true) : VRs ρ L cs cs := by
  refine ⟨rfl, fun v hv => ?_, fun i v hi => ⟨v, hi, VR.plain (h v (List.mem_of_getElem? hi))⟩⟩
  have := h v hv
  cases v <;> simp [plainV, isOne] at this ⊢
theorem VRs.set {ρ L as as' v v'} (n : Nat) (h : VRs ρ L as as') (hv : VR ρ L v v') (h1 : isOne v = true) : VRs ρ L (as.set n v) (as'.set n v') := by
  refine ⟨by simp [h.len], ?_, ?_⟩
  · intro x hx
    rcases List.mem_or_eq_of_mem_set hx with hx | rfl
    · exact h.one x hx
    · exact h1
  · intro i x hi
    rw [List.getElem?_set] at hi ⊢
    rw [← h.len]
    split at hi
    · rename_i hne
      rw [if_pos hne]
      split at hi
      · rename_i hlt; rw [if_pos hlt]; simp at hi; subst hi; exact ⟨v', rfl, hv⟩
      · simp at hi
    · rename_i hne
      rw [if_neg hne]; exact h.all i x hi

/-! ## memory -/
structure MRep (ρ : Rn) (m : Mem) (w : World) : Prop where
  live : ∀ n cs, m[n]? = some (.live cs) → ∃ (real : List Value) (elem : TypeId) (fr : Nat × Nat), w.heap[ρ.blk n]? = some (.cells ⟨real⟩ elem fr) ∧ real.length = ρ.sz n ∧
    ρ.sh n + cs.length ≤ real.length ∧ (∀ j, j < real.length → (decide (fr.1 ≤ j) && decide (j < fr.2)) = false) ∧ (∀ v ∈ real, v.oneCell' = true) ∧ VRs ρ m.length cs ((real.drop (ρ.sh n)).take cs.length)
  inj : ∀ n n' cs cs', m[n]? = some (.live cs) → m[n']? = some (.live cs') → ρ.blk n = ρ.blk n' → n = n'
  ro : ∀ n cs, m[n]? = some (.ro cs) → ρ.blk n < w.heap.size ∧ (∀ n' cs', m[n']? = some (.live cs') → ρ.blk n' ≠ ρ.blk n) ∧
    ∃ cs', VRs ρ m.length cs cs' ∧ ∀ j v, cs'[j]? = some v → w.cell? ⟨ρ.blk n, ρ.sh n + j, none⟩ = some v

structure Evo (ρ : Rn) (m : Mem) (w : World) (ρ' : Rn) (m' : Mem) (w' : World) : Prop where
  agree : ∀ n, n < m.length → ρ'.Same ρ n
  len : m.length ≤ m'.length
  size : w.heap.size ≤ w'.heap.size
  frame : ∀ b, b < w.heap.size → (∀ n cs, m[n]? = some (.live cs) → ρ.blk n ≠ b) → w'.heap[b]? = w.heap[b]?
  fresh : ∀ n cs, m'[n]? = some (.live cs) → (∃ n0 cs0, m[n0]? = some (.live cs0) ∧ ρ'.blk n = ρ.blk n0) ∨ w.heap.size ≤ ρ'.blk n
  tape : w'.tape = w.tape
  os : w'.os = w.os
  out : w'.output = w.output

theorem Evo.refl (ρ : Rn) (m : Mem) (w : World) : Evo ρ m w ρ m w :=
  ⟨fun _ _ => ⟨rfl, rfl, rfl⟩, Nat.le_refl _, Nat.le_refl _, fun _ _ _ => rfl, fun n cs h => .inl ⟨n, cs, h, rfl⟩, rfl, rfl, rfl⟩

theorem Evo.trans {ρ m w ρ' m' w' ρ'' m'' w''} (h : Evo ρ m w ρ' m' w') (h' : Evo ρ' m' w' ρ'' m'' w'') : Evo ρ m w ρ'' m'' w'' where
  agree n hn := by
    have a := h.agree n hn
    have c := h'.agree n (Nat.lt_of_lt_of_le hn h.len)
    exact ⟨c.blk.trans a.blk, c.sz.trans a.sz, c.sh.trans a.sh⟩
  len := Nat.le_trans h.len h'.len
  size := Nat.le_trans h.size h'.size
  frame b hb hn := by
    rw [h'.frame b (Nat.lt_of_lt_of_le hb h.size) ?_, h.frame b hb hn]
    intro n cs hl he
    rcases h.fresh n cs hl with ⟨n0, cs0, h0, h1⟩ | h1
    · exact hn n0 cs0 h0 (h1 ▸ he)
    · omega
  fresh n cs hl := by
    rcases h'.fresh n cs hl with ⟨n0, cs0, h0, h1⟩ | h1
    · rcases h.fresh n0 cs0 h0 with ⟨n1, cs1, h2, h3⟩ | h3
      · exact .inl ⟨n1, cs1, h2, h1.trans h3⟩
      · exact .inr (by omega)
    · exact .inr (Nat.le_trans h.size h1)
  tape := h'.tape.trans h.tape
  os := h'.os.trans h.os
  out := h'.out.trans h.out

theorem Evo.mono {ρ m w ρ' m' w' v v'} (h : Evo ρ m w ρ' m' w') (hv : VR ρ m.length v v') : VR ρ' m'.length v v' := hv.mono h.agree h.len
theorem Evo.monos {ρ m w ρ' m' w' v v'} (h : Evo ρ m w ρ' m' w') (hv : VRs ρ m.length v v') : VRs ρ' m'.length v v' := hv.mono h.agree h.len

theorem cells_iff {m : Mem} {b : Nat} {cs : List Value} : m.cells b = some cs ↔ m[b]? = some (.live cs) ∨ m[b]? = some (.ro cs) := by
  unfold Mem.cells
  constructor
  · intro h
    cases h1 : m[b]? with
    | none => simp [h1] at h
    | some o => cases o <;> simp [h1, MObj.cells] at h <;> subst h <;> simp
  · rintro (h | h) <;> simp [h, MObj.cells]
theorem wcells_iff {m : Mem} {b : Nat} {cs : List Value} : m.wcells b = some cs ↔ m[b]? = some (.live cs) := by
  unfold Mem.wcells
  constructor
  · intro h
    cases h1 : m[b]? with
    | none => simp [h1] at h
    | some o => cases o <;> simp [h1, MObj.wcells] at h; subst h; rfl
  · intro h; simp [h, MObj.wcells]

theorem add_none (b o n : Nat) : (⟨b, o, none⟩ : Addr).add n = ⟨b, o + n, none⟩ := by
  unfold Addr.add; split
  · rename_i h; subst h; rfl
  · rfl

/-- a readable object's cells in the world -/
theorem MRep.row {ρ m w} (h : MRep ρ m w) {n : Nat} {cs : List Value} (hc : m.cells n = some cs) :
    ∃ cs', VRs ρ m.length cs cs' ∧ ∀ j v, cs'[j]? = some v → ∀ w' : World, w'.heap = w.heap → w'.cell? ⟨ρ.blk n, ρ.sh n + j, none⟩ = some v := by
  rcases cells_iff.1 hc with hc | hc
  · obtain ⟨real, elem, fr, h1, h2, h3, h4, h5, h6⟩ := h.live n cs hc
    refine ⟨_, h6, fun j v hj w' hw' => ?_⟩
    rw [List.getElem?_take] at hj
    split at hj
    · rw [List.getElem?_drop] at hj
      simp [World.cell?, hw', h1, hj]
    · simp at hj
  · obtain ⟨_, _, cs', h1, h2⟩ := h.ro n cs hc
    refine ⟨cs', h1, fun j v hj w' hw' => ?_⟩
    have := h2 j v hj
    unfold World.cell? at this ⊢
    rwa [hw']

theorem MRep.get {ρ m w} (h : MRep ρ m w) {n : Nat} {cs : List Value} (hc : m.cells n = some cs) {i : Nat} {v : Value} (hi : cs[i]? = some v) :
    ∃ v', w.cell? ⟨ρ.blk n, ρ.sh n + i, none⟩ = some v' ∧ VR ρ m.length v v' := by
  obtain ⟨cs', h1, h2⟩ := h.row hc
  obtain ⟨v', h3, h4⟩ := h1.all i v hi
  exact ⟨v', h2 i v' h3 w rfl, h4⟩

theorem lt_of_get {m : Mem} {n : Nat} {o : MObj} (hc : m[n]? = some o) : n < m.length := by
  rcases Nat.lt_or_ge n m.length with h | h
  · exact h
  · simp [List.getElem?_eq_none h] at hc
theorem MRep.lt {ρ m w} (h : MRep ρ m w) {n : Nat} {cs : List Value} (hc : m.cells n = some cs) : n < m.length := by
  rcases cells_iff.1 hc with hc | hc <;> exact lt_of_get hc
theorem MRep.wlt {ρ m w} (h : MRep ρ m w) {n : Nat} {cs : List Value} (hc : m.wcells n = some cs) : n < m.length := lt_of_get (wcells_iff.1 hc)

def Rn.updS (ρ : Rn) (n b s h : Nat) : Rn := ⟨fun i => if i = n then b else ρ.blk i, fun i => if i = n then s else ρ.sz i, fun i => if i = n then h else ρ.sh i⟩
theorem Rn.updS_agree (ρ : Rn) (n b s h : Nat) : ∀ i, i < n → (ρ.updS n b s h).Same ρ i := by
  intro i hi
  have : i ≠ n := by omega
  constructor <;> simp [Rn.updS, this]
theorem MRep.blk_lt {ρ m w} (h : MRep ρ m w) {n : Nat} {cs : List Value} (hc : m[n]? = some (.live cs)) : ρ.blk n < w.heap.size := by
  obtain ⟨real, elem, fr, h1, _⟩ := h.live n cs hc
  rcases Nat.lt_or_ge (ρ.blk n) w.heap.size with h | h
  · exact h
  · simp [Array.getElem?_eq_none h] at h1

/-- what is read alone stays so where its blocks stay -/
theorem ro_keep {ρ ρ' : Rn} {m : Mem} {w w' : World} {L' n : Nat} {cs : List Value} (hr : ρ.blk n < w.heap.size ∧ (∀ n' cs', m[n']? = some (.live cs') → ρ.blk n' ≠ ρ.blk n) ∧ ∃ cs', VRs ρ m.length cs cs' ∧ ∀ j v, cs'[j]? = some v → w.cell? ⟨ρ.blk n, ρ.sh n + j, none⟩ = some v)
    (hn : n < m.length) (ha : ∀ n, n < m.length → ρ'.Same ρ n) (hl : m.length ≤ L') (hw : w'.heap[ρ.blk n]? = w.heap[ρ.blk n]?) (hsz : w.heap.size ≤ w'.heap.size) :
    ρ'.blk n < w'.heap.size ∧ ∃ cs', VRs ρ' L' cs cs' ∧ ∀ j v, cs'[j]? = some v → w'.cell? ⟨ρ'.blk n, ρ'.sh n + j, none⟩ = some v := by
  obtain ⟨h1, _, cs', h2, h3⟩ := hr
  refine ⟨by rw [(ha n hn).blk]; omega, cs', h2.mono ha hl, fun j v hj => ?_⟩
  have := h3 j v hj
  rw [(ha n hn).blk, (ha n hn).sh]
  unfold World.cell? at this ⊢
  simp only at this ⊢
  rwa [hw]
/-! a new object -/
def Rn.upd (ρ : Rn) (n b s : Nat) : Rn := ⟨fun i => if i = n then b else ρ.blk i, fun i => if i = n then s else ρ.sz i, fun i => if i = n then 0 else ρ.sh i⟩
theorem Rn.upd_agree (ρ : Rn) (n b s : Nat) : ∀ i, i < n → (ρ.upd n b s).Same ρ i := by
  intro i hi
  have : i ≠ n := by omega
  constructor <;> simp [Rn.upd, this]

theorem getElem?_snoc {α : Type} (m : List α) (o : α) (n : Nat) : (m ++ [o])[n]? = if n < m.length then m[n]? else if n = m.length then some o else none := by
  rw [List.getElem?_append]
  split
  · rfl
  · split
    · rename_i h1 h2; subst h2; simp
    · rename_i h1 h2
      rw [List.getElem?_eq_none]
      simp only [List.length_cons, List.length_nil]
      omega

theorem MRep.alloc {ρ m w} (h : MRep ρ m w) {cs real : List Value} {elem : TypeId} {fr : Nat × Nat} (hcs : VRs ρ m.length cs (real.take cs.length)) (hle : cs.length ≤ real.length) (h1 : ∀ v ∈ real, v.oneCell' = true)
    (hfr : ∀ j, j < real.length → (decide (fr.1 ≤ j) && decide (j < fr.2)) = false) {w' : World} (hw : w'.heap = w.heap.push (.cells ⟨real⟩ elem fr)) (ht : w'.tape = w.tape) (ho : w'.os = w.os) (hout : w'.output = w.output) :
    MRep (ρ.upd m.length w.heap.size real.length) (m ++ [.live cs]) w' ∧ Evo ρ m w (ρ.upd m.length w.heap.size real.length) (m ++ [.live cs]) w' := by
  have hag := Rn.upd_agree ρ m.length w.heap.size real.length
  have hself : (ρ.upd m.length w.heap.size real.length).blk m.length = w.heap.size := by simp [Rn.upd]
  have hself' : (ρ.upd m.length w.heap.size real.length).sz m.length = real.length := by simp [Rn.upd]
  have hself2 : (ρ.upd m.length w.heap.size real.length).sh m.length = 0 := by simp [Rn.upd]
  have hold : ∀ b, b < w.heap.size → w'.heap[b]? = w.heap[b]? := by
    intro b hb
    rw [hw, Array.getElem?_push, if_neg (by omega)]
  have hsz : w.heap.size ≤ w'.heap.size := by rw [hw]; simp
  have hget : ∀ {o : MObj} (n : Nat), (m ++ [MObj.live cs])[n]? = some o → (n < m.length ∧ m[n]? = some o) ∨ (n = m.length ∧ o = .live cs) := by
    intro o n hn
    rw [getElem?_snoc] at hn
    split at hn
    · rename_i hlt; exact .inl ⟨hlt, hn⟩
    · split at hn
      · rename_i h2; simp at hn; exact .inr ⟨h2, hn.symm⟩
      · simp at hn
  refine ⟨⟨?_, ?_, ?_⟩, ⟨hag, by simp, hsz, fun b hb _ => hold b hb, ?_, ht, ho, hout⟩⟩
  · intro n cs' hn
    rcases hget n hn with ⟨hlt, hn⟩ | ⟨rfl, hn⟩
    · obtain ⟨real', elem', fr', a1, a2, a3, a4, a5, a6⟩ := h.live n cs' hn
      refine ⟨real', elem', fr', ?_, ?_, ?_, a4, a5, ?_⟩
      · rw [(hag n hlt).blk, hold _ (h.blk_lt hn)]; exact a1
      · rw [(hag n hlt).sz]; exact a2
      · rw [(hag n hlt).sh]; exact a3
      · rw [(hag n hlt).sh]; exact a6.mono hag (by simp)
    · simp at hn; subst hn
      refine ⟨real, elem, fr, ?_, hself'.symm, by rw [hself2]; omega, hfr, h1, by rw [hself2]; exact hcs.mono hag (by simp)⟩
      rw [hself, hw]; simp
  · intro n n' cs1 cs2 hn hn' he
    rcases hget n hn with ⟨hlt, hn⟩ | ⟨rfl, hn⟩ <;> rcases hget n' hn' with ⟨hlt', hn'⟩ | ⟨h', hn'⟩
    · rw [(hag n hlt).blk, (hag n' hlt').blk] at he
      exact h.inj n n' cs1 cs2 hn hn' he
    · subst h'
      rw [(hag n hlt).blk, hself] at he
      have := h.blk_lt hn
      omega
    · rw [(hag n' hlt').blk, hself] at he
      have := h.blk_lt hn'
      omega
    · exact h'.symm
  · intro n c hn
    rcases hget n hn with ⟨hlt, hn⟩ | ⟨_, hn⟩
    · have hr := h.ro n c hn
      obtain ⟨b1, b2⟩ := ro_keep (L' := (m ++ [MObj.live cs]).length) hr hlt hag (by simp) (hold _ hr.1) hsz
      refine ⟨b1, fun n' c' hn' => ?_, b2⟩
      rw [(hag n hlt).blk]
      rcases hget n' hn' with ⟨hlt', hn'⟩ | ⟨rfl, _⟩
      · rw [(hag n' hlt').blk]; exact hr.2.1 n' c' hn'
      · rw [hself]; have := hr.1; omega
    · simp at hn
  · intro n cs' hn
    rcases hget n hn with ⟨hlt, hn⟩ | ⟨rfl, hn⟩
    · exact .inl ⟨n, cs', hn, (hag n hlt).blk⟩
    · exact .inr (by rw [hself]; exact Nat.le_refl _)

/-! a changed object: the world's row of one object is another one -/
theorem MRep.change {ρ m w} (h : MRep ρ m w) {n : Nat} {cs cs' real' : List Value} {elem : TypeId} {fr : Nat × Nat} (hn : m[n]? = some (.live cs)) (hlen : real'.length = ρ.sz n) (hle : ρ.sh n + cs'.length ≤ real'.length)
    (hfr : ∀ j, j < real'.length → (decide (fr.1 ≤ j) && decide (j < fr.2)) = false) (h1 : ∀ v ∈ real', v.oneCell' = true) (hcs : VRs ρ m.length cs' ((real'.drop (ρ.sh n)).take cs'.length))
    {w' : World} (hw : w'.heap[ρ.blk n]? = some (.cells ⟨real'⟩ elem fr)) (hot : ∀ b, b ≠ ρ.blk n → w'.heap[b]? = w.heap[b]?) (hsz : w'.heap.size = w.heap.size) (ht : w'.tape = w.tape) (ho : w'.os = w.os) (hout : w'.output = w.output) :
    MRep ρ (m.set n (.live cs')) w' ∧ Evo ρ m w ρ (m.set n (.live cs')) w' := by
  have hlt : n < m.length := lt_of_get hn
  have hget : ∀ (i : Nat), (m.set n (MObj.live cs'))[i]? = if i = n then some (MObj.live cs') else m[i]? := by
    intro i
    rw [List.getElem?_set]
    by_cases hi : n = i
    · subst hi; simp [hlt]
    · rw [if_neg hi, if_neg (fun h => hi h.symm)]
  have hall : ∀ (i : Nat) c, (m.set n (MObj.live cs'))[i]? = some (MObj.live c) → ∃ c0, m[i]? = some (MObj.live c0) := by
    intro i c hi
    rw [hget] at hi
    split at hi
    · rename_i h2; subst h2; exact ⟨cs, hn⟩
    · exact ⟨c, hi⟩
  have sam : ∀ i, i < m.length → ρ.Same ρ i := fun _ _ => ⟨rfl, rfl, rfl⟩
  refine ⟨⟨?_, ?_, ?_⟩, ⟨sam, by simp, by omega, ?_, ?_, ht, ho, hout⟩⟩
  · intro i c hi
    rw [hget] at hi
    simp only [List.length_set]
    split at hi
    · rename_i h2; subst h2
      simp at hi; subst hi
      exact ⟨real', elem, fr, hw, hlen, hle, hfr, h1, hcs⟩
    · rename_i h2
      obtain ⟨real, el, f, a1, a2, a3, a4, a5, a6⟩ := h.live i c hi
      refine ⟨real, el, f, ?_, a2, a3, a4, a5, a6⟩
      rw [hot _ (fun he => h2 (h.inj i n c cs hi hn he))]; exact a1
  · intro i i' c c' hi hi' he
    obtain ⟨d, hd⟩ := hall i c hi
    obtain ⟨d', hd'⟩ := hall i' c' hi'
    exact h.inj i i' d d' hd hd' he
  · intro i c hi
    rw [hget] at hi
    split at hi
    · simp at hi
    · have hr := h.ro i c hi
      obtain ⟨b1, b2⟩ := ro_keep (L' := (m.set n (MObj.live cs')).length) hr (lt_of_get hi) sam (by simp) (hot _ (fun he => hr.2.1 n cs hn he.symm)) (by omega)
      refine ⟨b1, fun n' c' hn' => ?_, b2⟩
      obtain ⟨d, hd⟩ := hall n' c' hn'
      exact hr.2.1 n' d hd
  · intro b hb hne
    exact hot b (fun he => hne n cs hn he.symm)
  · intro i c hi
    obtain ⟨d, hd⟩ := hall i c hi
    exact .inl ⟨i, d, hd, rfl⟩

theorem MRep.heap {ρ m w} (h : MRep ρ m w) {w' : World} (hw : w'.heap = w.heap) : MRep ρ m w' :=
  ⟨fun n cs hn => by rw [hw]; exact h.live n cs hn, h.inj, fun n cs hn => by
    obtain ⟨a, b, cs', c, d⟩ := h.ro n cs hn
    refine ⟨by rw [hw]; exact a, b, cs', c, fun j v hj => ?_⟩
    have := d j v hj
    unfold World.cell? at this ⊢
    rwa [hw]⟩
theorem MRep.drawn {ρ m w} (h : MRep ρ m w) {w' : World} (hw : w'.heap = w.heap) (ht : w'.tape = w.tape) (ho : w'.os = w.os) (hout : w'.output = w.output) : MRep ρ m w' ∧ Evo ρ m w ρ m w' :=
  ⟨h.heap hw, ⟨fun _ _ => ⟨rfl, rfl, rfl⟩, Nat.le_refl _, by rw [hw]; exact Nat.le_refl _, fun b _ _ => by rw [hw], fun n cs hn => .inl ⟨n, cs, hn, rfl⟩, ht, ho, hout⟩⟩

/-! ## loads -/
theorem run_load_of {P : Program} {w : World} {a : Addr} {v : Value} (h : w.cell? a = some v) : (load a).run P w = .ok v w := by
  rw [run_load, h]

theorem MRep.cell {ρ m w} (h : MRep ρ m w) {a : Addr} {cs : List Value} (hc : m.cells a.block = some cs) {v : Value} (hi : cs[a.off]? = some v) :
    ∃ v', w.cell? (toR ρ a) = some v' ∧ VR ρ m.length v v' := h.get hc hi

/-- a row of cells is loaded -/
theorem MRep.loadCells {ρ m w} (h : MRep ρ m w) {P : Program} {a : Addr} {n : Nat} {cs vs : List Value} (hc : m.cells a.block = some cs) (hv : cCells cs a.off n = some vs) :
    ∃ vs', (∀ w', w'.heap = w.heap → (loadCells (toR ρ a) n).run P w' = .ok ⟨vs'⟩ w') ∧ VRs ρ m.length vs vs' ∧ vs.length = n := by
  unfold cCells at hv
  split at hv
  · rename_i hle
    simp only [Option.some.injEq] at hv
    subst hv
    obtain ⟨cs', h6, h8⟩ := h.row hc
    have h7 := (h6.drop a.off).take n
    have hl : ((cs.drop a.off).take n).length = n := by simp; omega
    refine ⟨(cs'.drop a.off).take n, fun w' hw' => ?_, h7, hl⟩
    have key := run_loadCells_list (P := P) (w := w') (toR ρ a) ((cs'.drop a.off).take n) (by
      intro j v hj
      rw [toR, add_none, Nat.add_assoc]
      rw [List.getElem?_take] at hj
      split at hj
      · rw [List.getElem?_drop] at hj
        exact h8 _ v hj w' hw'
      · simp at hj)
    have hl2 : ((cs'.drop a.off).take n).length = n := by rw [← h7.len]; exact hl
    rw [hl2] at key
    exact key
  · simp at hv

/-! ## stores -/
theorem MRep.setCell {ρ m w} (h : MRep ρ m w) {b o : Nat} {v v' : Value} {cs : List Value} (hc : m.wcells b = some cs) (ho : o < cs.length) (hv : VR ρ m.length v v') (h1 : isOne v = true) :
    ∃ old, w.cell? ⟨ρ.blk b, ρ.sh b + o, none⟩ = some old ∧ w.frozen? ⟨ρ.blk b, ρ.sh b + o, none⟩ = false ∧ MRep ρ (m.set b (.live (cs.set o v))) (w.setCell ⟨ρ.blk b, ρ.sh b + o, none⟩ v') ∧
      Evo ρ m w ρ (m.set b (.live (cs.set o v))) (w.setCell ⟨ρ.blk b, ρ.sh b + o, none⟩ v') := by
  have hn := wcells_iff.1 hc
  obtain ⟨real, elem, fr, a1, a2, a3, a4, a5, a6⟩ := h.live b cs hn
  have hor : ρ.sh b + o < real.length := by omega
  refine ⟨real[ρ.sh b + o], ?_, ?_, ?_⟩
  · simp [World.cell?, a1, hor]
  · simp only [World.frozen?, a1]; exact a4 _ hor
  · have hw : (w.setCell ⟨ρ.blk b, ρ.sh b + o, none⟩ v').heap = w.heap.modify (ρ.blk b) fun
      | .cells c elem frozen => .cells (c.setIfInBounds (ρ.sh b + o) v') elem frozen
      | o => o := rfl
    refine h.change (cs' := cs.set o v) (real' := real.set (ρ.sh b + o) v') (elem := elem) (fr := fr) hn (by simp [a2]) (by simp; exact a3) (by simpa using a4) ?_ ?_ ?_ ?_ ?_ rfl rfl rfl
    · intro x hx
      rcases List.mem_or_eq_of_mem_set hx with hx | rfl
      · exact a5 x hx
      · rw [← hv.one]; exact h1
    · have := a6.set o hv h1
      rw [List.length_set, List.drop_set, if_neg (by omega), Nat.add_sub_cancel_left, List.take_set]; exact this
    · rw [hw, Array.getElem?_modify, if_pos rfl, a1]; simp
    · intro b' hb'
      rw [hw, Array.getElem?_modify, if_neg (fun h => hb' h.symm)]
    · rw [hw]; simp

end Go.Mx
