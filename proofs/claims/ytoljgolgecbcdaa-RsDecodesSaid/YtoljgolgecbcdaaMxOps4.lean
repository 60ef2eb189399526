/- The clean memory against the model: operations, fourth part: what is made. -/
import Derived.Test.YtoljgolgecbcdaaMxOps3
import Derived.Laws.MakeOwn
import Derived.Laws.Append
import Derived.Laws.Slices
set_option linter.unusedVariables false
set_option linter.unusedSimpArgs false
namespace Go.Mx

theorem repl_length (n : Nat) (zs : List Value) : (repl n zs).length = n * zs.length := by
  simp [repl]
theorem repl_get (zs : List Value) (hz : 0 < zs.length) : ∀ (n i : Nat), i < n * zs.length → (repl n zs)[i]? = zs[i % zs.length]?
  | 0, i, h => by simp at h
  | n + 1, i, h => by
    have e : repl (n + 1) zs = zs ++ repl n zs := by simp [repl, List.replicate_succ]
    rw [e, List.getElem?_append]
    split
    · rename_i hlt; rw [Nat.mod_eq_of_lt hlt]
    · rename_i hge
      rw [Nat.add_mul] at h
      rw [repl_get zs hz n (i - zs.length) (by rw [Nat.one_mul] at h; omega)]
      congr 1
      exact (Nat.mod_eq_sub_mod (by omega)).symm
theorem repl_range (n : Nat) (zs : Array Value) : ((Array.range (n * zs.size)).map (zs[· % zs.size]!)).toList = repl n zs.toList := by
  by_cases hz : 0 < zs.size
  · apply List.ext_getElem?
    intro i
    by_cases hi : i < n * zs.size
    · rw [repl_get zs.toList (by simpa using hz) n i (by simpa using hi)]
      have h2 : i % zs.size < zs.size := Nat.mod_lt _ hz
      simp [hi, h2, getElem!_pos]
    · rw [List.getElem?_eq_none (by simp; omega), List.getElem?_eq_none (by rw [repl_length]; simpa using hi)]
  · have hz0 : zs.size = 0 := by omega
    have : zs = #[] := by simpa using hz0
    subst this
    simp [repl]
theorem repl_plain {n : Nat} {zs : List Value} (h : ∀ v ∈ zs, plainV v = true) : ∀ v ∈ repl n zs, plainV v = true := by
  intro v hv
  simp only [repl, List.mem_flatten, List.mem_replicate] at hv
  obtain ⟨l, ⟨_, rfl⟩, h2⟩ := hv
  exact h v h2

section
variable {P : Program} {R : Type} {C : Ctx R} {ρ : Rn} {e : Env} {m : Mem} {a : Act} {w : World} {r : R} {K : Value → Mem → Option R}
  {dst : Option Tmp} {ty : TypeId} {pos : String} {after : Array Edge} {guard : Option (Nat × Bool)}

theorem VR.newSl {ρ' : Rn} {m : Mem} {cs : List Value} {w : World} (hb : ρ'.blk m.length = w.heap.size ∧ ρ'.sh m.length = 0) {n c : Nat} (hc : n ≤ c) :
    VR ρ' (m ++ [MObj.live cs]).length (.slice (some ⟨m.length, 0, none⟩) n c) (.slice (some ⟨w.heap.size, 0, none⟩) n c) := by
  refine .sl _ _ _ _ _ (by simp) ⟨.inr (by simp [toR, hb.1, hb.2]), hc, fun _ => rfl, fun z hz => by simp at hz⟩

theorem op_makeSlice (hs : St P C.T ρ e m a w) {t : TypeId} {l c : Operand} (h : oper C (.makeSlice t l c) e m K = some r) : ∃ v m', K v m' = some r ∧ Did P a ⟨dst, .makeSlice t l c, ty, pos, after, guard⟩ ρ m w v m' := by
  simp only [oper] at h
  split at h
  · rename_i el n c' hd hl hc
    have hl' := (opnd_sound hs.env hl).int_inv
    have hc' := (opnd_sound hs.env hc).int_inv
    have ht := hs.tok t (by rw [hd]; simp)
    have hdd := ht.desc
    rw [hd] at hdd
    have hte := hs.tok el hdd.2
    obtain ⟨i, hi1, hi2, hi3, z, hi4, hi5⟩ := hte.info
    cases hb : (decide (0 ≤ n) && decide (n ≤ c') && decide (c' * (C.T el).bytes ≤ most) && decide (c' ≤ most)) with
    | false => rw [hb] at h; simp at h
    | true =>
      rw [hb] at h
      simp only [cond_true] at h
      simp only [Bool.and_eq_true, decide_eq_true_eq] at hb
      obtain ⟨⟨⟨h0, h1⟩, h2⟩, h3⟩ := hb
      have hmo : ((most : Nat) : Int) = 140737488355328 := rfl
      rw [hmo] at h2 h3
      have key := run_make (P := P) w t el i z hdd.1 hi1 hi4 .i64 .i64 n c' h0 h1 (by rw [hi3, Int.mul_comm]; omega) (by omega)
      have hzs : z.cells.size = i.size := by
        rw [hi2, ← hte.zlen, ← hi5]; simp
      have hrow : (madeCells z.cells (c'.toNat * i.size)).toList = repl c'.toNat (C.T el).zero := by
        rw [← hzs, ← hi5]; exact repl_range _ _
      obtain ⟨ρ', h4, h5, h6, _⟩ := new_obj hs.mem (VRs.plain (ρ := ρ) (L := m.length) (repl_plain (n := c'.toNat) hte.plain)) el
      refine ⟨_, _, h, .slice (some ⟨w.heap.size, 0, none⟩) n.toNat c'.toNat, _, ρ', .inl ?_, VR.newSl h6 (by omega), h4, h5⟩
      rw [← hrow]
      simp [execOp, hl', hc', key]
  · simp at h

theorem upto_of {i : Int} {n : Nat} (h : inUpto i n = true) : 0 ≤ i ∧ i ≤ n := by simpa [inUpto] using h

theorem opO_sound (hs : St P C.T ρ e m a w) {x : Option Operand} {v : Option Value} (h : opO e x = some v) : (x = none ∧ v = none) ∨ ∃ y u, x = some y ∧ v = some u ∧ opnd e y = some u ∧ VR ρ m.length u (a.eval y) := by
  cases x with
  | none => simp [opO] at h; subst h; exact .inl ⟨rfl, rfl⟩
  | some y =>
    simp only [opO] at h
    split at h
    · rename_i u hu
      simp at h; subst h
      exact .inr ⟨y, u, rfl, rfl, hu, opnd_sound hs.env hu⟩
    · simp at h

/-- a bound as the model has it -/
def bnd (x : Option Operand) (a : Act) : Option Value := x.map a.eval
theorem bnd_none (hs : St P C.T ρ e m a w) {x : Option Operand} (h : opO e x = some none) : bnd x a = none := by
  rcases opO_sound hs h with ⟨rfl, _⟩ | ⟨y, u, _, h2, _⟩
  · rfl
  · simp at h2
theorem bnd_int (hs : St P C.T ρ e m a w) {x : Option Operand} {k : IntKind} {n : Int} (h : opO e x = some (some (.int k n))) : bnd x a = some (.int k n) := by
  rcases opO_sound hs h with ⟨_, h2⟩ | ⟨y, u, rfl, h2, _, h3⟩
  · simp at h2
  · simp at h2; subst h2
    simp [bnd, h3.int_inv]

/-- the slice that comes out -/
theorem VR.resliced {ρ : Rn} {L : Nat} {p p' : Option Addr} {n c c' : Nat} {lo h x x' z : Nat}
    (hv : (p = none ∧ p' = none ∧ n = 0 ∧ c = 0 ∧ c' = 0) ∨ ∃ b b', p = some b ∧ p' = some b' ∧ b.block < L ∧ SlOk ρ b b' n c c') (arr : Bool)
    (hlh : lo ≤ h) (hxx : (arr = true ∧ x' = x ∧ x' ≤ c') ∨ (arr = false ∧ x = c ∧ x' = c')) (hz : arr = true ∨ lo = 0 ∨ sliceK.okZ p z false = true) (hcc : h ≤ x') :
    VR ρ L (.slice ((sliceK.clear p arr).map fun a => Mx.plus a (lo * z)) (h - lo) (x - lo)) (.slice (if x' = lo then p' else p'.map (·.add (lo * z))) (h - lo) (x' - lo)) := by
  rcases hv with ⟨rfl, rfl, hn, hc, hc'⟩ | ⟨b, b', rfl, rfl, hb, h1, h2, h3, h4⟩
  · have hx : x' = x := by rcases hxx with ⟨_, h, _⟩ | ⟨_, h, h'⟩ <;> omega
    subst hx
    have hx0 : x' = 0 := by rcases hxx with ⟨_, h, _⟩ | ⟨_, h, h'⟩ <;> omega
    have e1 : h - lo = 0 := by omega
    have e2 : x' - lo = 0 := by omega
    rw [e1, e2]
    have : (if x' = lo then (none : Option Addr) else (none : Option Addr).map (·.add (lo * z))) = none := by split <;> rfl
    rw [this]
    cases arr <;> exact .sl0
  · have hspot : ∀ q, (sliceK.clear (some b) arr).map (fun a => Mx.plus a (lo * z)) = some q → q.block = b.block ∧ q.off = b.off + lo * z ∧ (arr = true → q.spot = none) ∧ (arr = false → q.spot = b.spot) := by
      intro q hq
      cases arr <;> simp [sliceK.clear, Mx.plus] at hq <;> subst hq <;> simp
    obtain ⟨q, hq⟩ : ∃ q, (sliceK.clear (some b) arr).map (fun a => Mx.plus a (lo * z)) = some q := by cases arr <;> exact ⟨_, rfl⟩
    obtain ⟨q1, q2, q3, q4⟩ := hspot q hq
    rw [hq]
    have hto : toR ρ q = (toR ρ b).add (lo * z) := by simp [toR, q1, q2, add_none, Nat.add_assoc]
    have hx'c : x' ≤ c' := by rcases hxx with ⟨_, _, h⟩ | ⟨_, _, h⟩ <;> omega
    have hp : ∃ q', (if x' = lo then some b' else (some b').map (·.add (lo * z))) = some q' ∧ (x' - lo = 0 ∨ q' = toR ρ q) := by
      split
      · exact ⟨b', rfl, .inl (by omega)⟩
      · refine ⟨b'.add (lo * z), rfl, ?_⟩
        rcases h1 with h1 | h1
        · exact .inl (by omega)
        · exact .inr (by rw [hto, h1])
    obtain ⟨q', e1, e2⟩ := hp
    rw [e1]
    refine .sl q q' _ _ _ (by omega) ⟨e2, by omega, ?_, ?_⟩
    · intro hn
      rcases hxx with ⟨_, h, _⟩ | ⟨harr, h, h'⟩
      · omega
      · have := h3 (by rw [← q4 harr]; exact hn); omega
    · intro y hy
      rcases hxx with ⟨harr, h, _⟩ | ⟨harr, h, h'⟩
      · rw [q3 harr] at hy; simp at hy
      · rw [q4 harr] at hy
        obtain ⟨h5, h6⟩ := h4 y hy
        refine ⟨by omega, ?_⟩
        rw [q1, q2]
        subst h'
        have hzy : lo = 0 ∨ y = z := by
          rcases hz with hz | hz | hz
          · rw [harr] at hz; simp at hz
          · exact .inl hz
          · simp [sliceK.okZ, hy] at hz; exact .inr hz
        rcases hzy with rfl | rfl
        · simp; omega
        · have : lo * y + (x' - lo) * y = x' * y := by rw [← Nat.add_mul]; congr 1; omega
          omega

theorem sb (k : IntKind) (i : Int) (y : Nat) (code : BoundsCode) (h : inUpto i y = true) : (Instr.sliceBound (.int k i) y code).run P w = .ok i.toNat w :=
  run_sliceBound w k i y code (upto_of h).1 (upto_of h).2

/-- what a slice expression makes of the model's own slice -/
theorem slice_run {t el : TypeId} (hu : P.underlying t = some (.slice el)) {z : Nat} (hz : (sizeOf el).run P w = .ok z w) (p : Option Addr) (n c : Nat) (lo hi mx : Option Value) (l h x : Nat)
    (hb : (Instr.sliceBounds true n c lo hi mx).run P w = .ok (l, h, x) w) : (Instr.sliceAt t (.slice p n c) lo hi mx).run P w = .ok (.slice (if x = l then p else p.map (·.add (l * z))) (h - l) (x - l)) w := by
  simp [Instr.sliceAt, Instr.slice, under w hu, hb, hz]
theorem slice_run_arr {t el N : TypeId} (hu : P.underlying t = some (.array N el)) {z : Nat} (hz : (sizeOf el).run P w = .ok z w) (p : Addr) (lo hi mx : Option Value) (l h x : Nat)
    (hb : (Instr.sliceBounds false N N lo hi mx).run P w = .ok (l, h, x) w) : (Instr.sliceAt t (.pointer (some p)) lo hi mx).run P w = .ok (.slice (if x = l then some p else (some p).map (·.add (l * z))) (h - l) (x - l)) w := by
  simp [Instr.sliceAt, under w hu, Instr.sureAddr, hb, hz]
  split <;> rfl

theorem upto_le {i : Int} {n : Nat} (h : inUpto i n = true) : i.toNat ≤ n := by have := upto_of h; omega
theorem upto_mono {i : Int} {n n' : Nat} (h : inUpto i n = true) (hn : n ≤ n') : inUpto i n' = true := by
  have := upto_of h
  simp [inUpto]; omega

theorem exec_slice {t : TypeId} {x : Operand} {lo hi mx : Option Operand} {v : Value} (h : (Instr.sliceAt t (a.eval x) (bnd lo a) (bnd hi a) (bnd mx a)).run P w = .ok v w) :
    (execOp a.eval ⟨dst, .slice t x lo hi mx, ty, pos, after, guard⟩).run P w = .ok (.value v) w := by
  have e : ∀ (y : Option Operand), y.map a.eval = bnd y a := fun y => rfl
  simp [execOp, e, h]

theorem slice_core {p p' : Option Addr} {n c c' : Nat} {lo hi mx : Option Operand} {lo' hi' mx' : Option Value} {K : Value → Option R} {L : Nat}
    (hs : St P C.T ρ e m a w) (hlo : opO e lo = some lo') (hhi : opO e hi = some hi') (hmx : opO e mx = some mx') {z : Nat} {arr : Bool}
    (hv : (p = none ∧ p' = none ∧ n = 0 ∧ c = 0 ∧ c' = 0) ∨ ∃ b b', p = some b ∧ p' = some b' ∧ b.block < L ∧ SlOk ρ b b' n c c')
    (hc : arr = true → c' = c) (hnc : n ≤ c') (hcc : c ≤ c')
    (h : sliceK.go p n c z arr K lo' hi' mx' = some r) :
    ∃ v v' l hh xx, K v = some r ∧ VR ρ L v v' ∧ (∀ isS, (Instr.sliceBounds isS n c' (bnd lo a) (bnd hi a) (bnd mx a)).run P w = .ok (l, hh, xx) w) ∧ v' = .slice (if xx = l then p' else p'.map (·.add (l * z))) (hh - l) (xx - l) := by
  have harr : (arr = true ∧ c' = c ∧ c' ≤ c') ∨ (arr = false ∧ c = c ∧ c' = c') := by
    cases arr
    · exact .inr ⟨rfl, rfl, rfl⟩
    · exact .inl ⟨rfl, hc rfl, Nat.le_refl _⟩
  have hp0 : ∀ (q : Option Addr), (q.map fun a => Mx.plus a (0 * z)) = q := by
    intro q; cases q <;> simp [Mx.plus]
  have hok : ∀ {b : Bool}, (sliceK.okZ p z arr && b) = true → (arr = true ∨ sliceK.okZ p z false = true) ∧ b = true := by
    intro b hb
    simp only [Bool.and_eq_true] at hb
    cases arr
    · exact ⟨.inr hb.1, hb.2⟩
    · exact ⟨.inl rfl, hb.2⟩
  unfold sliceK.go at h
  split at h
  · rw [bnd_none hs hlo, bnd_none hs hhi, bnd_none hs hmx]
    have h1 := VR.resliced (ρ := ρ) (L := L) (lo := 0) (h := n) (x := c) (x' := c') (z := z) hv arr (by omega) harr (.inr (.inl rfl)) hnc
    rw [hp0, Nat.sub_zero, Nat.sub_zero] at h1
    exact ⟨_, _, 0, n, c', h, h1, fun isS => by simp [Instr.sliceBounds], rfl⟩
  · rename_i k l
    rw [bnd_int hs hlo, bnd_none hs hhi, bnd_none hs hmx]
    cases hb : (sliceK.okZ p z arr && inUpto l n) with
    | false => rw [hb] at h; simp at h
    | true =>
      rw [hb] at h
      simp only [cond_true] at h
      obtain ⟨h1, h2⟩ := hok hb
      have h3 := VR.resliced (ρ := ρ) (L := L) (lo := l.toNat) (h := n) (x := c) (x' := c') (z := z) hv arr (upto_le h2) harr (by rcases h1 with h1 | h1 <;> first | exact .inl h1 | exact .inr (.inr h1)) hnc
      exact ⟨_, _, l.toNat, n, c', h, h3, fun isS => by simp [Instr.sliceBounds, sb _ _ _ _ h2], rfl⟩
  · rename_i k hh
    rw [bnd_none hs hlo, bnd_int hs hhi, bnd_none hs hmx]
    cases hb : (inUpto hh c) with
    | false => rw [hb] at h; simp at h
    | true =>
      rw [hb] at h
      simp only [cond_true] at h
      have h2 := upto_mono hb hcc
      have h1 := VR.resliced (ρ := ρ) (L := L) (lo := 0) (h := hh.toNat) (x := c) (x' := c') (z := z) hv arr (by omega) harr (.inr (.inl rfl)) (upto_le h2)
      rw [hp0, Nat.sub_zero, Nat.sub_zero] at h1
      exact ⟨_, _, 0, hh.toNat, c', h, h1, fun isS => by simp [Instr.sliceBounds, sb _ _ _ _ h2], rfl⟩
  · rename_i k1 l k2 hh
    rw [bnd_int hs hlo, bnd_int hs hhi, bnd_none hs hmx]
    cases hb : (sliceK.okZ p z arr && inUpto hh c && inUpto l hh.toNat) with
    | false => rw [hb] at h; simp at h
    | true =>
      rw [hb] at h
      simp only [cond_true] at h
      rw [Bool.and_assoc] at hb
      obtain ⟨h1, h2⟩ := hok hb
      simp only [Bool.and_eq_true] at h2
      have h2' := upto_mono h2.1 hcc
      have h3 := VR.resliced (ρ := ρ) (L := L) (lo := l.toNat) (h := hh.toNat) (x := c) (x' := c') (z := z) hv arr (upto_le h2.2) harr (by rcases h1 with h1 | h1 <;> first | exact .inl h1 | exact .inr (.inr h1)) (upto_le h2')
      exact ⟨_, _, l.toNat, hh.toNat, c', h, h3, fun isS => by simp [Instr.sliceBounds, sb _ _ _ _ h2', sb _ _ _ _ h2.2], rfl⟩
  · rename_i k1 l k2 hh k3 x
    rw [bnd_int hs hlo, bnd_int hs hhi, bnd_int hs hmx]
    cases hb : (inUpto x c && inUpto hh x.toNat && inUpto l hh.toNat) with
    | false => rw [hb] at h; simp at h
    | true =>
      rw [hb] at h
      simp only [cond_true] at h
      simp only [Bool.and_eq_true] at hb
      have h2' := upto_mono hb.1.1 hcc
      have h3 := VR.resliced (ρ := ρ) (L := L) (lo := l.toNat) (h := hh.toNat) (x := x.toNat) (x' := x.toNat) (z := z) hv true (upto_le hb.2) (.inl ⟨rfl, rfl, upto_le h2'⟩) (.inl rfl) (upto_le hb.1.2)
      exact ⟨_, _, l.toNat, hh.toNat, x.toNat, h, h3, fun isS => by simp [Instr.sliceBounds, sb _ _ _ _ h2', sb _ _ _ _ hb.1.2, sb _ _ _ _ hb.2], rfl⟩
  · rename_i k2 hh k3 x
    rw [bnd_none hs hlo, bnd_int hs hhi, bnd_int hs hmx]
    cases hb : (inUpto x c && inUpto hh x.toNat) with
    | false => rw [hb] at h; simp at h
    | true =>
      rw [hb] at h
      simp only [cond_true] at h
      simp only [Bool.and_eq_true] at hb
      have h2' := upto_mono hb.1 hcc
      have h1 := VR.resliced (ρ := ρ) (L := L) (lo := 0) (h := hh.toNat) (x := x.toNat) (x' := x.toNat) (z := z) hv true (by omega) (.inl ⟨rfl, rfl, upto_le h2'⟩) (.inl rfl) (upto_le hb.2)
      rw [hp0, Nat.sub_zero, Nat.sub_zero] at h1
      exact ⟨_, _, 0, hh.toNat, x.toNat, h, h1, fun isS => by simp [Instr.sliceBounds, sb _ _ _ _ h2', sb _ _ _ _ hb.2], rfl⟩
  · simp at h

theorem op_slice (hs : St P C.T ρ e m a w) {t : TypeId} {x : Operand} {lo hi mx : Option Operand} (h : oper C (.slice t x lo hi mx) e m K = some r) : ∃ v m', K v m' = some r ∧ Did P a ⟨dst, .slice t x lo hi mx, ty, pos, after, guard⟩ ρ m w v m' := by
  simp only [oper] at h
  split at h
  · rename_i xv lo' hi' mx' hx hlo hhi hmx
    have hx' := opnd_sound hs.env hx
    unfold sliceK at h
    split at h
    · rename_i s hd
      have ht := hs.tok t (by rw [hd]; simp)
      have hdd := ht.desc
      rw [hd] at hdd
      have hx2 := hx'.str_inv
      have fin : ∀ (l hh xx : Nat), (Instr.sliceBounds false s.size s.size (bnd lo a) (bnd hi a) none).run P w = .ok (l, hh, xx) w → mx' = none → K (.string (s.extract l hh)) m = some r →
          ∃ v m', K v m' = some r ∧ Did P a ⟨dst, .slice t x lo hi mx, ty, pos, after, guard⟩ ρ m w v m' := by
        intro l hh xx hb hm hK
        subst hm
        refine ⟨_, m, hK, .here hs.mem (v' := .string (s.extract l hh)) (exec_slice ?_) (.str _)⟩
        rw [bnd_none hs hmx, hx2]
        simp [Instr.sliceAt, Instr.slice, under w hdd, hb]
      split at h
      · exact fin 0 s.size s.size (by rw [bnd_none hs hlo, bnd_none hs hhi]; simp [Instr.sliceBounds]) rfl h
      · rename_i k l
        cases hb : inUpto l s.size with
        | false => rw [hb] at h; simp at h
        | true =>
          rw [hb] at h
          exact fin l.toNat s.size s.size (by rw [bnd_int hs hlo, bnd_none hs hhi]; simp [Instr.sliceBounds, sb _ _ _ _ hb]) rfl h
      · rename_i k hh
        cases hb : inUpto hh s.size with
        | false => rw [hb] at h; simp at h
        | true =>
          rw [hb] at h
          exact fin 0 hh.toNat s.size (by rw [bnd_none hs hlo, bnd_int hs hhi]; simp [Instr.sliceBounds, sb _ _ _ _ hb]) rfl h
      · rename_i k1 l k2 hh
        cases hb : (inUpto hh s.size && inUpto l hh.toNat) with
        | false => rw [hb] at h; simp at h
        | true =>
          rw [hb] at h
          simp only [Bool.and_eq_true] at hb
          exact fin l.toNat hh.toNat s.size (by rw [bnd_int hs hlo, bnd_int hs hhi]; simp [Instr.sliceBounds, sb _ _ _ _ hb.1, sb _ _ _ _ hb.2]) rfl h
      · simp at h
    · rename_i el p n c hd
      have ht := hs.tok t (by rw [hd]; simp)
      have hdd := ht.desc
      rw [hd] at hdd
      have hsz := (hs.tok el hdd.2).size w
      rcases hx'.sl_inv with ⟨rfl, rfl, rfl, hx2⟩ | ⟨b, b', c', rfl, hx2, h3, h4⟩
      · obtain ⟨v, v', l, hh, xx, h5, h6, h7, rfl⟩ := slice_core (p' := none) (c' := 0) (L := m.length) hs hlo hhi hmx (.inl ⟨rfl, rfl, rfl, rfl, rfl⟩) (fun _ => rfl) (Nat.le_refl _) (Nat.le_refl _) h
        exact ⟨v, m, h5, .here hs.mem (exec_slice (by rw [hx2]; exact slice_run hdd.1 hsz _ _ _ _ _ _ _ _ _ (h7 true))) h6⟩
      · obtain ⟨v, v', l, hh, xx, h5, h6, h7, rfl⟩ := slice_core (p' := some b') (c' := c') (L := m.length) hs hlo hhi hmx (.inr ⟨b, b', rfl, rfl, h3, h4⟩) (by simp) h4.2.1 (by
          cases hsp : b.spot with
          | none => have := h4.2.2.1 hsp; omega
          | some y => exact (h4.2.2.2 y hsp).1) h
        exact ⟨v, m, h5, .here hs.mem (exec_slice (by rw [hx2]; exact slice_run hdd.1 hsz _ _ _ _ _ _ _ _ _ (h7 true))) h6⟩
    · rename_i n el b hd
      have ht := hs.tok t (by rw [hd]; simp)
      have hdd := ht.desc
      rw [hd] at hdd
      have hsz := (hs.tok el hdd.2).size w
      obtain ⟨hx2, hlt⟩ := hx'.ptr_inv
      have h0 : sliceK.go (some b) n n (C.T el).size true (fun v => K v m) lo' hi' mx' = sliceK.go (some ⟨b.block, b.off, none⟩) n n (C.T el).size true (fun v => K v m) lo' hi' mx' := rfl
      rw [h0] at h
      obtain ⟨v, v', l, hh, xx, h5, h6, h7, rfl⟩ := slice_core (p' := some (toR ρ b)) (c' := n) (L := m.length) hs hlo hhi hmx (.inr ⟨⟨b.block, b.off, none⟩, toR ρ b, rfl, rfl, hlt, .inr rfl, Nat.le_refl _, fun _ => rfl, fun z hz => by simp at hz⟩) (fun _ => rfl) (Nat.le_refl _) (Nat.le_refl _) h
      exact ⟨v, m, h5, .here hs.mem (exec_slice (by rw [hx2]; exact slice_run_arr hdd.1 hsz _ _ _ _ _ _ _ (h7 false))) h6⟩
    · simp at h
  · simp at h
end
end Go.Mx
