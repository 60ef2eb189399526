/- The clean memory against the model: operations, sixth part: len, min, max, append, copy. -/
import Derived.Test.YtoljgolgecbcdaaMxOps5
set_option linter.unusedVariables false
set_option linter.unusedSimpArgs false
namespace Go.Mx

/-- stores into a row that is known whole -/
theorem storeCells_real {P : Program} {b o : Nat} {elem : TypeId} {fr : Nat × Nat} : ∀ (vs : List Value) (i : Nat) (real : List Value) (w : World), w.heap[b]? = some (.cells ⟨real⟩ elem fr) →
    (∀ j, j < real.length → (decide (fr.1 ≤ j) && decide (j < fr.2)) = false) → o + i + vs.length ≤ real.length → (∀ v ∈ vs, v.oneCell' = true) →
    ∃ w', (Go.storeCells ⟨b, o, none⟩ vs i).run P w = .ok () w' ∧ w'.heap[b]? = some (.cells ⟨real.take (o + i) ++ vs ++ real.drop (o + i + vs.length)⟩ elem fr) ∧
      (∀ b', b' ≠ b → w'.heap[b']? = w.heap[b']?) ∧ w'.heap.size = w.heap.size ∧ w'.tape = w.tape ∧ w'.os = w.os ∧ w'.output = w.output
  | [], i, real, w, hb, hf, hl, h1 => ⟨w, rfl, by simp [hb], fun _ _ => rfl, rfl, rfl, rfl, rfl⟩
  | v :: vs, i, real, w, hb, hf, hl, h1 => by
    simp only [List.length_cons] at hl
    have hor : o + i < real.length := by omega
    have hcell : w.cell? ⟨b, o + i, none⟩ = some real[o + i] := by simp [World.cell?, hb, hor]
    have hfr : w.frozen? ⟨b, o + i, none⟩ = false := by simp only [World.frozen?, hb]; exact hf _ hor
    have hheap : (w.setCell ⟨b, o + i, none⟩ v).heap = w.heap.modify b fun
      | .cells c elem frozen => .cells (c.setIfInBounds (o + i) v) elem frozen
      | o => o := rfl
    have hb1 : (w.setCell ⟨b, o + i, none⟩ v).heap[b]? = some (.cells ⟨real.set (o + i) v⟩ elem fr) := by
      rw [hheap, Array.getElem?_modify, if_pos rfl, hb]; simp
    obtain ⟨w', h2, h3, h4, h5, h6, h7, h8⟩ := storeCells_real (P := P) (o := o) vs (i + 1) (real.set (o + i) v) _ hb1 (by simpa using hf) (by simp; omega) (fun x hx => h1 x (by simp [hx]))
    refine ⟨w', ?_, ?_, ?_, ?_, h6, h7, h8⟩
    · have hst : (store (⟨b, o + i, none⟩ : Addr) v).run P w = .ok () (w.setCell ⟨b, o + i, none⟩ v) := by
        rw [run_store P w _ v .plain (h1 v (by simp)), hcell]
        simp [hfr]
      rw [Go.storeCells, add_none, Sem.run_bind, hst]
      exact h2
    · rw [h3]
      have := seg_step real (o + i) v vs (by omega)
      rw [show o + (i + 1) = o + i + 1 by omega, List.length_cons, this]
    · intro b' hb'
      rw [h4 b' hb', hheap, Array.getElem?_modify, if_neg (fun h => hb' h.symm)]
    · rw [h5, hheap]; simp

/-- an object of which nothing more is said -/
theorem MRep.kill {ρ m w} (h : MRep ρ m w) (n : Nat) : MRep ρ (m.set n .dead) w ∧ Evo ρ m w ρ (m.set n .dead) w := by
  have hall : ∀ (i : Nat) c, (m.set n MObj.dead)[i]? = some (MObj.live c) → m[i]? = some (MObj.live c) := by
    intro i c hi
    rw [List.getElem?_set] at hi
    split at hi
    · split at hi <;> simp at hi
    · exact hi
  refine ⟨⟨fun i c hi => ?_, fun i i' c c' hi hi' he => h.inj i i' c c' (hall _ _ hi) (hall _ _ hi') he, fun i c hi => ?_⟩, ⟨fun _ _ => ⟨rfl, rfl, rfl⟩, by simp, Nat.le_refl _, fun _ _ _ => rfl, fun i c hi => .inl ⟨i, c, hall _ _ hi, rfl⟩, rfl, rfl, rfl⟩⟩
  · obtain ⟨real, elem, fr, h1⟩ := h.live i c (hall _ _ hi)
    refine ⟨real, elem, fr, ?_⟩
    simpa using h1
  · have hi2 : m[i]? = some (.ro c) := by
      rw [List.getElem?_set] at hi
      split at hi
      · split at hi <;> simp at hi
      · exact hi
    obtain ⟨a, b, d⟩ := h.ro i c hi2
    refine ⟨a, fun n' c' hn' => b n' c' (hall _ _ hn'), ?_⟩
    simpa using d

/-- an object under a new number -/
theorem MRep.move {ρ m w} (h : MRep ρ m w) {b : Nat} {c : List Value} (hb : m[b]? = some (.live c)) (off : Nat) (hoff : off ≤ c.length) :
    MRep (ρ.updS m.length (ρ.blk b) (ρ.sz b) (ρ.sh b + off)) (m.set b .dead ++ [.live (c.drop off)]) w ∧ Evo ρ m w (ρ.updS m.length (ρ.blk b) (ρ.sz b) (ρ.sh b + off)) (m.set b .dead ++ [.live (c.drop off)]) w := by
  have hag := Rn.updS_agree ρ m.length (ρ.blk b) (ρ.sz b) (ρ.sh b + off)
  have hblt : b < m.length := by
    rcases Nat.lt_or_ge b m.length with h | h
    · exact h
    · simp [List.getElem?_eq_none h] at hb
  have hself : (ρ.updS m.length (ρ.blk b) (ρ.sz b) (ρ.sh b + off)).blk m.length = ρ.blk b := by simp [Rn.updS]
  have hself' : (ρ.updS m.length (ρ.blk b) (ρ.sz b) (ρ.sh b + off)).sz m.length = ρ.sz b := by simp [Rn.updS]
  have hget : ∀ (n : Nat) cs, (m.set b MObj.dead ++ [MObj.live (c.drop off)])[n]? = some (MObj.live cs) → (n < m.length ∧ n ≠ b ∧ m[n]? = some (MObj.live cs)) ∨ (n = m.length ∧ cs = c.drop off) := by
    intro n cs hn
    rw [getElem?_snoc, List.length_set] at hn
    split at hn
    · rename_i hlt
      rw [List.getElem?_set] at hn
      split at hn
      · simp at hn
      · rename_i hne
        exact .inl ⟨hlt, fun h => hne h.symm, hn⟩
    · split at hn
      · rename_i h2
        simp at hn
        exact .inr ⟨h2, hn.symm⟩
      · simp at hn
  have hself2 : (ρ.updS m.length (ρ.blk b) (ρ.sz b) (ρ.sh b + off)).sh m.length = ρ.sh b + off := by simp [Rn.updS]
  have hlen : m.length ≤ (m.set b MObj.dead ++ [MObj.live (c.drop off)]).length := by simp
  refine ⟨⟨fun n cs hn => ?_, fun n n' cs cs' hn hn' he => ?_, fun n cs hn => ?_⟩, ⟨hag, hlen, Nat.le_refl _, fun _ _ _ => rfl, fun n cs hn => ?_, rfl, rfl, rfl⟩⟩
  · rcases hget n cs hn with ⟨h1, h2, h3⟩ | ⟨rfl, rfl⟩
    · obtain ⟨real, elem, fr, a1, a2, a3, a4, a5, a6⟩ := h.live n cs h3
      exact ⟨real, elem, fr, by rw [(hag n h1).blk]; exact a1, by rw [(hag n h1).sz]; exact a2, by rw [(hag n h1).sh]; exact a3, a4, a5, by rw [(hag n h1).sh]; exact a6.mono hag hlen⟩
    · obtain ⟨real, elem, fr, a1, a2, a3, a4, a5, a6⟩ := h.live b c hb
      refine ⟨real, elem, fr, by rw [hself]; exact a1, by rw [hself']; exact a2, by rw [hself2, List.length_drop]; omega, a4, a5, ?_⟩
      have := (a6.drop off).mono hag hlen
      rw [List.drop_take, List.drop_drop] at this
      rw [hself2, List.length_drop]; exact this
  · rcases hget n cs hn with ⟨h1, h2, h3⟩ | ⟨rfl, rfl⟩ <;> rcases hget n' cs' hn' with ⟨h1', h2', h3'⟩ | ⟨h1', h2'⟩
    · rw [(hag n h1).blk, (hag n' h1').blk] at he
      exact h.inj n n' cs cs' h3 h3' he
    · subst h1'
      rw [(hag n h1).blk, hself] at he
      exact absurd (h.inj n b cs c h3 hb he) h2
    · rw [hself, (hag n' h1').blk] at he
      exact absurd (h.inj n' b cs' c h3' hb he.symm) h2'
    · exact h1'.symm
  · have hn2 : n < m.length ∧ m[n]? = some (.ro cs) := by
      rw [getElem?_snoc, List.length_set] at hn
      split at hn
      · rename_i hlt
        rw [List.getElem?_set] at hn
        split at hn
        · simp at hn
        · exact ⟨hlt, hn⟩
      · split at hn <;> simp at hn
    have hr := h.ro n cs hn2.2
    obtain ⟨b1, b2⟩ := ro_keep hr hn2.1 hag hlen rfl (Nat.le_refl _)
    refine ⟨b1, fun n' c' hn' => ?_, b2⟩
    rw [(hag n hn2.1).blk]
    rcases hget n' c' hn' with ⟨h1, h2, h3⟩ | ⟨rfl, rfl⟩
    · rw [(hag n' h1).blk]; exact hr.2.1 n' c' h3
    · rw [hself]; exact hr.2.1 b c hb
  · rcases hget n cs hn with ⟨h1, h2, h3⟩ | ⟨rfl, rfl⟩
    · exact .inl ⟨n, cs, h3, (hag n h1).blk⟩
    · exact .inl ⟨b, c, hb, hself⟩

section
variable {P : Program} {R : Type} {C : Ctx R} {ρ : Rn} {e : Env} {m : Mem} {a : Act} {w : World} {r : R} {K : Value → Mem → Option R}
  {dst : Option Tmp} {ty : TypeId} {pos : String} {after : Array Edge} {guard : Option (Nat × Bool)}

theorem rdSl_ld {m : Mem} {b : Addr} {n z : Nat} {old : List Value} (h : ldCells m b (n * z) = some old) : rdSl m (some b) n z = some old := by
  unfold rdSl
  by_cases h0 : n * z = 0
  · simp only [if_pos h0]
    rw [h0] at h
    simp only [ldCells, Option.bind_eq_some_iff] at h
    obtain ⟨cs, _, h⟩ := h
    unfold cCells at h
    split at h
    · simpa using h
    · simp at h
  · simp only [if_neg h0]; exact h
/-- what an argument holds -/
theorem rdSl_sound (hm : MRep ρ m w) {p : Option Addr} {n z : Nat} {new : List Value} {x' : Value} {l c : Nat} (h : rdSl m p n z = some new) (hx : VR ρ m.length (.slice p l c) x') (hn : n ≤ l) :
    ∃ new', (∀ w', w'.heap = w.heap → (Builtin.firstCells z n x').run P w' = .ok ⟨new'⟩ w') ∧ VRs ρ m.length new new' ∧ new.length = n * z := by
  rcases hx.sl_inv with ⟨rfl, rfl, rfl, rfl⟩ | ⟨b, b', c', rfl, rfl, h3, h4⟩
  · simp only [rdSl] at h
    split at h
    · rename_i h0; subst h0
      simp at h; subst h
      exact ⟨[], fun w' _ => by simp [Builtin.firstCells], .nil, by simp⟩
    · simp at h
  · by_cases hz0 : n * z = 0
    · simp only [rdSl, if_pos hz0, Option.some.injEq] at h
      subst h
      exact ⟨[], fun w' _ => by simp only [Builtin.firstCells, hz0, loadCells, loadCellsFrom]; rfl, .nil, by simp [hz0]⟩
    simp only [rdSl, if_neg hz0, ldCells, Option.bind_eq_some_iff] at h
    obtain ⟨cs, hcs, h⟩ := h
    rcases h4.1 with h5 | h5
    · have hn0 : n = 0 := by have := h4.2.1; omega
      subst hn0
      unfold cCells at h
      split at h
      · simp at h; subst h
        refine ⟨[], fun w' _ => ?_, .nil, by simp⟩
        simp [Builtin.firstCells, loadCells, loadCellsFrom]
      · simp at h
    · subst h5
      obtain ⟨vs', h6, h7, h8⟩ := hm.loadCells (P := P) hcs h
      exact ⟨vs', fun w' hw' => by simp only [Builtin.firstCells]; exact h6 w' hw', h7, h8⟩

theorem VRs.one' {ρ L cs cs'} (h : VRs ρ L cs cs') : ∀ v ∈ cs', v.oneCell' = true := by
  intro v hv
  obtain ⟨i, hi, rfl⟩ := List.mem_iff_getElem.1 hv
  have hi' : i < cs.length := by rw [h.len]; exact hi
  obtain ⟨v', h3, h4⟩ := h.all i cs[i] (by simp [hi'])
  have : v' = cs'[i] := by
    rw [List.getElem?_eq_getElem hi] at h3; simp at h3; exact h3.symm
  rw [← this, ← h4.one]
  exact h.one _ (List.getElem_mem hi')

theorem zeroCells_list (zs : Array Value) (n : Nat) : (Builtin.zeroCells zs n).toList = repl n zs.toList := repl_range n zs

theorem not_int {d : TypeDesc} (h : ∀ k, d ≠ .int k) : (d matches .int _) = false := by
  cases d <;> first | rfl | exact absurd rfl (h _)
/-- append in place -/
theorem append_place {sType xType ty el : TypeId} (hu : P.underlying sType = some (.slice el)) {d2 : TypeDesc} (hu2 : P.underlying xType = some d2) (hd2 : ∀ k, d2 ≠ .int k) {i : TypeInfo} (hi : P.info? el = some i)
    (base : Option Addr) (sLen sCap : Nat) (x : Value) (n : Nat) (hlen : (Builtin.lenOf x).run P w = .ok n w) (hle : sLen + n ≤ sCap) {new : Array Value} (hnew : (Builtin.firstCells i.size n x).run P w = .ok new w) :
    (Builtin.append_ #[sType, xType] ty #[.slice base sLen sCap, x]).run P w = match base with
      | some b => ((Go.storeCells (b.add (sLen * i.size)) new.toList).run P w).andThen fun _ w'' => .ok (.slice base (sLen + n) sCap) w''
      | none => .ok (.slice base (sLen + n) sCap) w := by
  have hz := not_int hd2
  cases base <;> simp [Builtin.append_, under w hu, under w hu2, sizeOf, typeInfo, hi, hlen, hle, hnew, hz]

/-- append into a new row -/
theorem append_new {sType xType ty el : TypeId} (hu : P.underlying sType = some (.slice el)) {d2 : TypeDesc} (hu2 : P.underlying xType = some d2) (hd2 : ∀ k, d2 ≠ .int k) {i : TypeInfo} (hi : P.info? el = some i) {z : Value} (hz : i.zero = some z)
    (base : Option Addr) (sLen sCap : Nat) (x : Value) (n : Nat) (hlen : ∀ w, (Builtin.lenOf x).run P w = .ok n w) (hgt : sCap < sLen + n) (h40 : sLen + n ≤ most) (h40' : (sLen + n) * i.bytes ≤ most)
    {old new : Array Value} (hold : (Builtin.firstCells i.size sLen (.slice base sLen sCap)).run P w.drew = .ok old w.drew)
    (hnew : (Builtin.firstCells i.size n x).run P w.drew = .ok new w.drew) :
    ∃ c, sLen + n ≤ c ∧ (Builtin.append_ #[sType, xType] ty #[.slice base sLen sCap, x]).run P w =
      .ok (.slice (some ⟨w.heap.size, 0, none⟩) (sLen + n) c) (w.drew.alloc (.cells (old ++ (new ++ Builtin.zeroCells z.cells (c - (sLen + n)))) el)) := by
  refine ⟨(Question.appendCap (sLen + n) sCap el).cut (w.tape w.drawn (.appendCap (sLen + n) sCap el)), by simp [Question.cut], ?_⟩
  have hle : ¬ (sLen + n ≤ sCap) := by omega
  unfold most at h40 h40'
  have h1 : ¬ (9223372036854775807 < ((sLen : Int) + (n : Int))) := by omega
  have h2 := nextslicecap_le hgt
  have h3 : Builtin.nextslicecap (sLen + n) sCap * i.bytes ≤ 281474976710656 := by
    have := Nat.mul_le_mul_right i.bytes h2
    rw [Nat.mul_assoc] at this
    omega
  have h4 : ¬ (281474976710656 < Builtin.nextslicecap (sLen + n) sCap * i.bytes) := by omega
  have hz2 := not_int hd2
  simp [Builtin.append_, under w hu, under w hu2, sizeOf, typeInfo, zeroValue, hi, hz, hlen, hle, h1, h4, Question.forced, hold, hnew, newRow, hz2]

theorem MRep.drew (hm : MRep ρ m w) : MRep ρ m w.drew ∧ Evo ρ m w ρ m w.drew := hm.drawn rfl rfl rfl rfl

/-- a grown row, in a memory of which one object may be given up -/
theorem grown_sound {m1 : Mem} (hm : MRep ρ m1 w) {cs cs' rest : List Value} (h : VRs ρ m1.length cs cs') (hr : ∀ v ∈ rest, plainV v = true) {el : TypeId} {n c z : Nat} (hn : n ≤ c) (hsz : c * z ≤ cs'.length + rest.length) :
    ∃ ρ', VR ρ' (m1 ++ [MObj.live cs]).length (.slice (some ⟨m1.length, 0, some z⟩) n n) (.slice (some ⟨w.drew.heap.size, 0, none⟩) n c) ∧
      MRep ρ' (m1 ++ [.live cs]) (w.drew.alloc (.cells ⟨cs' ++ rest⟩ el)) ∧ Evo ρ m1 w ρ' (m1 ++ [.live cs]) (w.drew.alloc (.cells ⟨cs' ++ rest⟩ el)) := by
  obtain ⟨h1, h2⟩ := hm.drew
  have h3 := MRep.alloc h1 (cs := cs) (real := cs' ++ rest) (elem := el) (fr := (0, 0)) (by rw [h.len, List.take_left]; exact h) (by simp [h.len]) (by
    intro v hv
    rcases List.mem_append.1 hv with hv | hv
    · exact h.one' v hv
    · exact plain_one (hr v hv)) (by intro j _; simp) (w' := w.drew.alloc (.cells ⟨cs' ++ rest⟩ el)) rfl rfl rfl rfl
  refine ⟨_, ?_, h3.1, h2.trans h3.2⟩
  refine .sl _ _ _ _ _ (by simp) ⟨.inr (by simp [toR, Rn.upd]), hn, fun h => by simp at h, fun z' hz' => ?_⟩
  simp only [Option.some.injEq] at hz'
  subst hz'
  refine ⟨hn, ?_⟩
  simp [Rn.upd]; omega

/-- what append makes -/
theorem appM_sound (hT : TOk P C.T) (hm : MRep ρ m w) {sType xType ty el : TypeId} (hd : (C.T sType).d = .slice el) (hd2 : notInt (C.T xType).d = true) {p : Option Addr} {n c l : Nat} {new : List Value} {s' x' : Value} {K : Sl → Mem → Option R}
    (h : (appM (C.T el).size (C.T el).bytes m p n c l new).bind (fun r => K r.1 r.2) = some r) (hs' : VR ρ m.length (.slice p n c) s') (hlen : ∀ w, (Builtin.lenOf x').run P w = .ok l w)
    {new' : List Value} (hnew : ∀ w', w'.heap = w.heap → (Builtin.firstCells (C.T el).size l x').run P w' = .ok ⟨new'⟩ w') (hvs : VRs ρ m.length new new') (hnl : new.length = l * (C.T el).size) :
    ∃ s m' v' w' ρ', K s m' = some r ∧ (Builtin.append_ #[sType, xType] ty #[s', x']).run P w = .ok v' w' ∧ VR ρ' m'.length (.slice s.a s.len s.cap) v' ∧ MRep ρ' m' w' ∧ Evo ρ m w ρ' m' w' := by
  simp only [Option.bind_eq_some_iff] at h
  obtain ⟨⟨s, m'⟩, hap, hK⟩ := h
  have ht := hT sType (by rw [hd]; simp)
  have hdd := ht.desc
  rw [hd] at hdd
  have hte := hT el hdd.2
  obtain ⟨i, hi1, hi2, hi3, z, hi4, hi5⟩ := hte.info
  obtain ⟨d2, hu2, hd2'⟩ : ∃ d2, P.underlying xType = some d2 ∧ ∀ k, d2 ≠ .int k := by
    have hx := hT xType (by intro h; rw [h] at hd2; simp [notInt] at hd2)
    have hxd := hx.desc
    cases hq : (C.T xType).d <;> rw [hq] at hd2 hxd <;> simp only [notInt, Bool.false_eq_true] at hd2
    · exact ⟨_, hxd, by simp⟩
    · exact ⟨_, hxd.1, by simp⟩
  unfold appM at hap
  split at hap
  · -- in place for certain
    rename_i hle
    have hnew0 := hnew w rfl
    rw [← hi2] at hnew0
    rcases hs'.sl_inv with ⟨rfl, rfl, rfl, rfl⟩ | ⟨b, b', c', rfl, rfl, h3, h4⟩
    · simp only at hap
      split at hap
      · rename_i h0
        simp only [Option.some.injEq, Prod.mk.injEq] at hap
        obtain ⟨rfl, rfl⟩ := hap
        have hl0 : l = 0 := by omega
        subst hl0
        refine ⟨_, _, _, w, ρ, hK, append_place hdd.1 hu2 hd2' hi1 none 0 0 x' 0 (hlen w) hle hnew0, .sl0, hm, Evo.refl _ _ _⟩
      · simp at hap
    · have hcc : c ≤ c' := by
        cases hsp : b.spot with
        | none => have := h4.2.2.1 hsp; omega
        | some y => exact (h4.2.2.2 y hsp).1
      simp only [Option.bind_eq_some_iff] at hap
      obtain ⟨m1, hst, hap⟩ := hap
      simp only [Option.some.injEq, Prod.mk.injEq] at hap
      obtain ⟨rfl, rfl⟩ := hap
      have key := append_place (ty := ty) hdd.1 hu2 hd2' hi1 (some b') n c' x' l (hlen w) (by omega) hnew0
      have hslot : ∀ {w' : World}, Evo ρ m w ρ m1 w' → VR ρ m1.length (.slice (some b) (n + l) c) (.slice (some b') (n + l) c') := by
        intro w' hev
        exact .sl _ _ _ _ _ (by have := hev.len; omega) ⟨h4.1, by omega, h4.2.2.1, h4.2.2.2⟩
      rcases h4.1 with h5 | h5
      · -- nothing is stored
        have hl0 : l = 0 := by omega
        subst hl0
        have hn0 : new' = [] := by
          have := hvs.len
          apply List.eq_nil_of_length_eq_zero; omega
        subst hn0
        have hnn : new = [] := by
          apply List.eq_nil_of_length_eq_zero; have := hvs.len; simpa using this
        subst hnn
        obtain ⟨cs, e1, e2, e3⟩ := stCells_inv hst
        have hself : m1 = m := by
          rw [e3]
          simp only [List.append_nil, List.length_nil, Nat.add_zero, List.take_append_drop]
          apply List.ext_getElem?
          intro j
          rw [List.getElem?_set]
          split
          · rename_i h; subst h
            rw [if_pos (hm.wlt e1)]; exact (wcells_iff.1 e1).symm
          · rfl
        subst hself
        refine ⟨_, _, _, w, ρ, hK, ?_, hslot (Evo.refl _ _ _), hm, Evo.refl _ _ _⟩
        rw [key]; rfl
      · subst h5
        obtain ⟨w', h6, h7, h8⟩ := stCells_sound (P := P) hm hst hvs
        refine ⟨_, _, _, w', ρ, hK, ?_, hslot h8, h7, h8⟩
        rw [key]
        have e : (toR ρ b).add (n * i.size) = toR ρ (Mx.plus b (n * (C.T el).size)) := by simp [toR, Mx.plus, add_none, hi2, Nat.add_assoc]
        simp only [e, h6, Result.andThen_ok]
  · rename_i hgt
    split at hap
    · rename_i hb
      have hdr := (hm.drew)
      have hnew1 := hnew w.drew rfl
      rw [← hi2] at hnew1
      have hrest : ∀ k, ∀ v ∈ (Builtin.zeroCells z.cells k).toList, plainV v = true := by
        intro k
        rw [zeroCells_list]
        exact repl_plain (by rw [hi5]; exact hte.plain)
      have hrl : ∀ k, (Builtin.zeroCells z.cells k).toList.length = k * (C.T el).size := by
        intro k
        rw [zeroCells_list, repl_length, hi5, hte.zlen]
      have harr : ∀ (o q : List Value) (k : Nat), ((⟨o⟩ : Array Value) ++ ((⟨q⟩ : Array Value) ++ Builtin.zeroCells z.cells k)) = ⟨o ++ q ++ (Builtin.zeroCells z.cells k).toList⟩ := by
        intro o q k
        apply Array.toList_inj.1
        simp [List.append_assoc]
      rcases hs'.sl_inv with ⟨rfl, rfl, rfl, rfl⟩ | ⟨b, b', c', rfl, rfl, h3, h4⟩
      · simp only at hap
        simp only [if_true, Option.some.injEq, Prod.mk.injEq] at hap
        obtain ⟨rfl, rfl⟩ := hap
        obtain ⟨cc, h5, h6⟩ := append_new (ty := ty) hdd.1 hu2 hd2' hi1 hi4 none 0 0 x' l hlen (by omega) (by omega) (by rw [hi3]; exact hb.1) (old := #[]) (by simp [Builtin.firstCells]) hnew1
        obtain ⟨ρ', h7, h8, h9⟩ := grown_sound (cs := [] ++ new) (cs' := [] ++ new') hm (by simpa using hvs) (hrest (cc - (0 + l))) (el := el) (n := l) (c := cc) (z := (C.T el).size) (by omega) (by
          rw [hrl]
          have := hvs.len
          simp only [List.nil_append]
          rw [← this, hnl, ← Nat.add_mul]
          exact Nat.mul_le_mul_right _ (by omega))
        refine ⟨_, _, _, _, ρ', hK, h6, ?_, ?_, ?_⟩
        · rw [Nat.zero_add]; exact h7
        · rw [harr]; simpa using h8
        · rw [harr]; simpa using h9
      · simp only [Option.bind_eq_some_iff] at hap
        obtain ⟨old, hold, hap⟩ := hap
        have hnc' : n ≤ c' := h4.2.1
        have hrd : rdSl m (some b) n (C.T el).size = some old := rdSl_ld hold
        -- what the model reads of the old row
        have holdr : ∀ w' : World, MRep ρ m w' → ∃ old', (Builtin.firstCells i.size n (.slice (some b') n c')).run P w' = .ok ⟨old'⟩ w' ∧ VRs ρ m.length old old' ∧ old.length = n * (C.T el).size := by
          intro w' hm'
          obtain ⟨o1, o2, o3, o4⟩ := rdSl_sound (P := P) hm' hrd hs' (Nat.le_refl _)
          rw [← hi2] at o2 o4 ⊢
          exact ⟨o1, o2 w' rfl, o3, o4⟩
        -- into a new row
        have grow : ∀ (m1 : Mem), MRep ρ m1 w ∧ Evo ρ m w ρ m1 w → m1.length = m.length → m' = m1 ++ [.live (old ++ new)] → s = ⟨some ⟨m.length, 0, some (C.T el).size⟩, n + l, n + l⟩ → c' < n + l →
            ∃ s m' v' w' ρ', K s m' = some r ∧ (Builtin.append_ #[sType, xType] ty #[.slice (some b') n c', x']).run P w = .ok v' w' ∧ VR ρ' m'.length (.slice s.a s.len s.cap) v' ∧ MRep ρ' m' w' ∧ Evo ρ m w ρ' m' w' := by
          intro m1 hm1 hl1 hm' hs1 hlt
          obtain ⟨old', h5, h6, h6'⟩ := holdr w.drew hdr.1
          obtain ⟨cc, h7, h8⟩ := append_new (ty := ty) hdd.1 hu2 hd2' hi1 hi4 (some b') n c' x' l hlen hlt hb.2 (by rw [hi3]; exact hb.1) h5 hnew1
          obtain ⟨ρ', h9, h10, h11⟩ := grown_sound (cs := old ++ new) (cs' := old' ++ new') hm1.1 (by rw [hl1]; exact h6.append hvs) (hrest (cc - (n + l))) (el := el) (n := n + l) (c := cc) (z := (C.T el).size) h7 (by
            rw [hrl, List.length_append, ← h6.len, ← hvs.len, hnl, h6', ← Nat.add_mul, ← Nat.add_mul]
            exact Nat.mul_le_mul_right _ (by omega))
          refine ⟨s, m', _, _, ρ', hK, h8, ?_, ?_, ?_⟩
          · rw [hs1, hm', ← hl1]; exact h9
          · rw [hm', harr]; exact h10
          · rw [hm', harr]; exact hm1.2.trans h11
        split at hap
        · rename_i hsp
          simp only [Option.some.injEq, Prod.mk.injEq] at hap
          have hcc := h4.2.2.1 hsp
          exact grow m ⟨hm, Evo.refl _ _ _⟩ rfl hap.2.symm hap.1.symm (by omega)
        · rename_i z' hsp
          split at hap
          · rename_i hz0
            subst hz0
            simp only [Option.bind_eq_some_iff] at hap
            obtain ⟨cs, hcs, hap⟩ := hap
            simp only [Option.some.injEq, Prod.mk.injEq] at hap
            obtain ⟨rfl, rfl⟩ := hap
            have hkill := hm.kill b.block
            obtain ⟨hcc, hbound⟩ := h4.2.2.2 _ hsp
            by_cases hlt : c' < n + l
            · exact grow _ hkill (by simp) rfl rfl hlt
            · -- the model has room in place
              have hb' : b' = toR ρ b := by
                rcases h4.1 with h | h
                · omega
                · exact h
              subst hb'
              obtain ⟨old', h5, h6, h6'⟩ := holdr w hm
              have hnew0 := hnew w rfl
              rw [← hi2] at hnew0
              have key := append_place (ty := ty) hdd.1 hu2 hd2' hi1 (some (toR ρ b)) n c' x' l (hlen w) (by omega) hnew0
              simp only [ldCells, Option.bind_eq_some_iff] at hold
              obtain ⟨cs2, hcs2, hold⟩ := hold
              have hlive := wcells_iff.1 hcs
              have hce : cs2 = cs := by
                rw [cells_iff.2 (.inl hlive)] at hcs2
                simpa using hcs2.symm
              subst hce
              obtain ⟨real, elem, fr, a1, a2, a3, a4, a5, a6⟩ := hm.live b.block cs2 hlive
              have hroom : ρ.sh b.block + (b.off + n * (C.T el).size) + new'.length ≤ real.length := by
                rw [← hvs.len, hnl, a2]
                have := Nat.mul_le_mul_right (C.T el).size (show n + l ≤ c' by omega)
                rw [Nat.add_mul] at this
                omega
              obtain ⟨w', b1, b2, b3, b4, b5, b6, b7⟩ := storeCells_real (P := P) (b := ρ.blk b.block) (o := ρ.sh b.block + (b.off + n * (C.T el).size)) new' 0 real w a1 a4 (by omega) hvs.one'
              have eadd : (toR ρ b).add (n * i.size) = ⟨ρ.blk b.block, ρ.sh b.block + (b.off + n * (C.T el).size), none⟩ := by simp [toR, add_none, hi2, Nat.add_assoc]
              -- the old cells are the new row's first
              have hold2 : old = (cs2.drop b.off).take (n * (C.T el).size) ∧ b.off + n * (C.T el).size ≤ cs2.length := by
                unfold cCells at hold
                split at hold
                · rename_i hle
                  simp at hold
                  exact ⟨hold.symm, hle⟩
                · simp at hold
              have hlt0 := hm.wlt hcs
              have hpre : (cs2.take (b.off + n * (C.T el).size)).length = b.off + n * (C.T el).size := by rw [List.length_take]; omega
              have hdrop : (cs2.take (b.off + n * (C.T el).size) ++ new).drop b.off = old ++ new := by
                rw [List.drop_append_of_le_length (by omega), hold2.1, List.take_drop]
              refine ⟨_, _, .slice (some (toR ρ b)) (n + l) c', w', ρ.updS m.length (ρ.blk b.block) (ρ.sz b.block) (ρ.sh b.block + b.off), hK, ?_, ?_, ?_, ?_⟩
              · rw [key]; simp only [eadd, b1, Result.andThen_ok]
              · refine .sl _ _ _ _ _ (by simp) ⟨.inr (by simp [toR, Rn.updS]), by show n + l ≤ c'; omega, fun h => by simp at h, fun z' hz' => ?_⟩
                simp only [Option.some.injEq] at hz'
                subst hz'
                refine ⟨by show n + l ≤ c'; omega, ?_⟩
                simp [Rn.updS]; omega
              all_goals
                have htake : ((real.take (ρ.sh b.block + (b.off + n * (C.T el).size)) ++ new' ++ real.drop (ρ.sh b.block + (b.off + n * (C.T el).size) + new'.length)).drop (ρ.sh b.block)).take (cs2.take (b.off + n * (C.T el).size) ++ new).length = (real.drop (ρ.sh b.block)).take (b.off + n * (C.T el).size) ++ new' := by
                  rw [List.append_assoc, List.drop_append_of_le_length (by rw [List.length_take]; omega), ← List.append_assoc]
                  rw [List.drop_take, Nat.add_sub_cancel_left]
                  rw [List.take_left']
                  rw [List.length_append, List.length_append, List.length_take, List.length_drop, hpre, hvs.len]
                  omega
                have hvr : VRs ρ m.length (cs2.take (b.off + n * (C.T el).size) ++ new) ((real.drop (ρ.sh b.block)).take (b.off + n * (C.T el).size) ++ new') := by
                  refine VRs.append ?_ hvs
                  have := a6.take (b.off + n * (C.T el).size)
                  rwa [List.take_take, Nat.min_eq_left hold2.2] at this
                have hch := hm.change (w' := w') (cs' := cs2.take (b.off + n * (C.T el).size) ++ new) (real' := real.take (ρ.sh b.block + (b.off + n * (C.T el).size)) ++ new' ++ real.drop (ρ.sh b.block + (b.off + n * (C.T el).size) + new'.length)) (elem := elem) (fr := fr) hlive (by
                    rw [← a2]; simp; omega) (by rw [List.length_append, hpre, hvs.len]; simp; omega) (by
                    intro j hj
                    apply a4
                    simp at hj; omega) (by
                    intro v hv
                    rcases List.mem_append.1 hv with hv | hv
                    · rcases List.mem_append.1 hv with hv | hv
                      · exact a5 v (List.mem_of_mem_take hv)
                      · exact hvs.one' v hv
                    · exact a5 v (List.mem_of_mem_drop hv)) (by rw [htake]; exact hvr) (by simpa using b2) b3 b4 b5 b6 b7
                have hmv := hch.1.move (b := b.block) (c := cs2.take (b.off + n * (C.T el).size) ++ new) (by rw [List.getElem?_set]; simp [hlt0]) b.off (by rw [List.length_append, hpre]; omega)
                rw [List.length_set, List.set_set, hdrop] at hmv
              · exact hmv.1
              · exact hch.2.trans hmv.2
          · simp at hap
    · simp at hap

theorem resolve_len (c : Call) (hc : c.callee = .builtin .len) : (execOp a.eval ⟨dst, .call c, ty, pos, after, guard⟩).run P w = ((Builtin.len_ c.argTypes ty (c.args.map a.eval)).run P w).andThen fun v w' => .ok (.value v) w' := by
  obtain ⟨callee, args, argTypes⟩ := c
  simp only at hc
  subst hc
  simp [execOp, resolve, invoke, builtin]
theorem resolve_append (c : Call) (hc : c.callee = .builtin .append) : (execOp a.eval ⟨dst, .call c, ty, pos, after, guard⟩).run P w = ((Builtin.append_ c.argTypes ty (c.args.map a.eval)).run P w).andThen fun v w' => .ok (.value v) w' := by
  obtain ⟨callee, args, argTypes⟩ := c
  simp only at hc
  subst hc
  simp [execOp, resolve, invoke, builtin]
theorem resolve_copy (c : Call) (hc : c.callee = .builtin .copy) : (execOp a.eval ⟨dst, .call c, ty, pos, after, guard⟩).run P w = ((Builtin.copy_ c.argTypes ty (c.args.map a.eval)).run P w).andThen fun v w' => .ok (.value v) w' := by
  obtain ⟨callee, args, argTypes⟩ := c
  simp only at hc
  subst hc
  simp [execOp, resolve, invoke, builtin]
theorem resolve_min (c : Call) (hc : c.callee = .builtin .min) : (execOp a.eval ⟨dst, .call c, ty, pos, after, guard⟩).run P w = ((Builtin.min_ c.argTypes ty (c.args.map a.eval)).run P w).andThen fun v w' => .ok (.value v) w' := by
  obtain ⟨callee, args, argTypes⟩ := c
  simp only at hc
  subst hc
  simp [execOp, resolve, invoke, builtin]
theorem resolve_max (c : Call) (hc : c.callee = .builtin .max) : (execOp a.eval ⟨dst, .call c, ty, pos, after, guard⟩).run P w = ((Builtin.max_ c.argTypes ty (c.args.map a.eval)).run P w).andThen fun v w' => .ok (.value v) w' := by
  obtain ⟨callee, args, argTypes⟩ := c
  simp only at hc
  subst hc
  simp [execOp, resolve, invoke, builtin]

/-- the arguments, one by one -/
theorem args_one (hs : St P C.T ρ e m a w) {xs : Array Operand} {v : Value} (h : opnds e xs.toList = some [v]) : ∃ v', xs.map a.eval = #[v'] ∧ VR ρ m.length v v' := by
  obtain ⟨h1, h2⟩ := opnds_sound hs.env h
  match hx : xs.toList, h1 with
  | [x], _ =>
    obtain ⟨y, h3, h4⟩ := h2 0 v rfl
    rw [hx] at h3
    simp at h3; subst h3
    refine ⟨a.eval x, ?_, h4⟩
    apply Array.toList_inj.1
    simp [hx]
theorem args_two (hs : St P C.T ρ e m a w) {xs : Array Operand} {v u : Value} (h : opnds e xs.toList = some [v, u]) : ∃ v' u', xs.map a.eval = #[v', u'] ∧ VR ρ m.length v v' ∧ VR ρ m.length u u' := by
  obtain ⟨h1, h2⟩ := opnds_sound hs.env h
  match hx : xs.toList, h1 with
  | [x, y], _ =>
    obtain ⟨x', h3, h4⟩ := h2 0 v rfl
    obtain ⟨y', h5, h6⟩ := h2 1 u rfl
    rw [hx] at h3 h5
    simp at h3 h5; subst h3; subst h5
    refine ⟨a.eval x, a.eval y, ?_, h4, h6⟩
    apply Array.toList_inj.1
    simp [hx]

theorem arr_one {α : Type} {xs : Array α} {x : α} (h : xs.toList = [x]) : xs = #[x] := by apply Array.toList_inj.1; simpa using h
theorem arr_two {α : Type} {xs : Array α} {x y : α} (h : xs.toList = [x, y]) : xs = #[x, y] := by apply Array.toList_inj.1; simpa using h

theorem min2_int (k : IntKind) (x y : Int) : (Builtin.min2 (.int k x) (.int k y)).run P w = .ok (.int k (minI x y)) w := rfl
theorem max2_int (k : IntKind) (x y : Int) : (Builtin.max2 (.int k x) (.int k y)).run P w = .ok (.int k (maxI x y)) w := rfl

theorem bytesOf_len (s : ByteArray) : (bytesOf s).length = s.size := by simp [bytesOf]
theorem bytesOf_plain (s : ByteArray) : ∀ v ∈ bytesOf s, plainV v = true := by
  intro v hv
  simp only [bytesOf, List.mem_map] at hv
  obtain ⟨b, _, rfl⟩ := hv
  rfl
theorem firstCells_str (s : ByteArray) (n z : Nat) (h : n ≤ s.size) : (Builtin.firstCells z n (.string s)).run P w = .ok ⟨(bytesOf s).take n⟩ w := by
  simp only [Builtin.firstCells, Sem.run_pure]
  congr 1
  apply Array.toList_inj.1
  simp [bytesOf, ByteArray.data_extract]

theorem wrap_sm {x : Int} (h1 : -9223372036854775808 ≤ x) (h2 : x < 9223372036854775808) : IntKind.wrap .i64 x = x := by
  simp [IntKind.wrap, IntKind.bits, IntKind.signed]
  omega
def zstr (l : Nat) : ByteArray := ⟨⟨List.replicate l 0⟩⟩
theorem zstr_size (l : Nat) : (zstr l).size = l := by simp [zstr, ByteArray.size]
theorem zstr_bytes (l : Nat) : bytesOf (zstr l) = repl l [.int .u8 0] := by
  simp only [bytesOf, zstr, List.map_replicate]
  unfold repl
  induction l with
  | zero => rfl
  | succ l ih => rw [List.replicate_succ, List.replicate_succ, ih]; rfl
theorem append_zeros {ty sType xType el : TypeId} (hu : P.underlying sType = some (.slice el)) {k : IntKind} (hu2 : P.underlying xType = some (.int k)) {i : TypeInfo} (hi : P.info? el = some i) {z : Value} (hz : i.zero = some z) (hs1 : i.size = 1) (hb : i.bytes = 1) (hzc : z.cells.toList = [.int .u8 0])
    (base : Option Addr) (sLen sCap l : Nat) (kx : IntKind) (hl : l ≤ 1000000) (hl0 : l ≠ 0) (hfit : sLen + l ≤ sCap ∨ sLen + l ≤ most) :
    (Builtin.append_ #[sType, xType] ty #[.slice base sLen sCap, .int kx l]).run P w = (Builtin.append_ #[sType, sType] ty #[.slice base sLen sCap, .string (zstr l)]).run P w := by
  have hw : IntKind.wrap .i64 (l : Int) = l := wrap_sm (by omega) (by omega)
  have h0 : ¬ ((l : Int) < 0) := by omega
  have h1 : ¬ (281474976710656 < (l : Int)) := by omega
  have hzero : Builtin.zeroCells z.cells l = ⟨(bytesOf (zstr l))⟩ := by
    apply Array.toList_inj.1
    rw [zeroCells_list, hzc, zstr_bytes]
  have hlen : (Builtin.lenOf (.string (zstr l))).run P w = .ok l w := by simp [Builtin.lenOf, zstr_size]
  have hfc : ∀ w : World, (Builtin.firstCells 1 l (.string (zstr l))).run P w = .ok ⟨bytesOf (zstr l)⟩ w := fun w => by
    have := firstCells_str (P := P) (w := w) (zstr l) l 1 (by rw [zstr_size]; exact Nat.le_refl _)
    rw [this]
    congr 2
    rw [List.take_of_length_le (by rw [bytesOf_len, zstr_size]; exact Nat.le_refl _)]
  have hn1 : (TypeDesc.int k matches .int _) = true := rfl
  have hn2 : (TypeDesc.slice el matches .int _) = false := rfl
  by_cases hle : sLen + l ≤ sCap
  · cases base <;> simp [Builtin.append_, under w hu, under w hu2, sizeOf, typeInfo, zeroValue, hi, hz, hle, hs1, hb, hw, h0, h1, hl0, asInt, asIntOf, hlen, hfc, hzero]
  · have hm : sLen + l ≤ most := by rcases hfit with h | h; exact absurd h hle; exact h
    unfold most at hm
    have h3 : ¬ (9223372036854775807 < ((sLen : Int) + (l : Int))) := by omega
    have h2 := nextslicecap_le (by omega : sCap < sLen + l)
    have h4 : ¬ (281474976710656 < Builtin.nextslicecap (sLen + l) sCap) := by omega
    simp [Builtin.append_, under w hu, under w hu2, sizeOf, typeInfo, zeroValue, hi, hz, hle, hs1, hb, hw, h0, h1, h3, h4, hl0, asInt, asIntOf, hlen, hfc, hzero]

theorem op_builtin (hs : St P C.T ρ e m a w) {c : Call} (hc : ∃ b, c.callee = .builtin b) (h : oper C (.call c) e m K = some r) : ∃ v m', K v m' = some r ∧ Did P a ⟨dst, .call c, ty, pos, after, guard⟩ ρ m w v m' := by
  obtain ⟨b, hb⟩ := hc
  simp only [oper, hb] at h
  cases b <;> simp only [reduceCtorEq] at h
  case len =>
    split at h
    · rename_i t v hat hv
      obtain ⟨v', h1, h2⟩ := args_one hs hv
      have run := resolve_len (P := P) (w := w) (a := a) (dst := dst) (ty := ty) (pos := pos) (after := after) (guard := guard) c hb
      rw [h1, arr_one hat] at run
      have ht := fun hne => (hs.tok t hne).desc
      split at h
      · rename_i el p n cp hd
        have hdd := ht (by rw [hd]; simp)
        rw [hd] at hdd
        refine ⟨_, m, h, .here hs.mem (v' := .int .i64 (n : Int)) ?_ (.int _ _)⟩
        rw [run]
        rcases h2.sl_inv with ⟨rfl, rfl, rfl, rfl⟩ | ⟨x, x', c', rfl, rfl, _, _⟩ <;> simp [Builtin.len_, under w hdd.1, goInt]
      · rename_i s hd
        have hdd := ht (by rw [hd]; simp)
        rw [hd] at hdd
        refine ⟨_, m, h, .here hs.mem (v' := .int .i64 (s.size : Int)) ?_ (.int _ _)⟩
        rw [run, h2.str_inv]
        simp [Builtin.len_, under w hdd, goInt]
      · rename_i n el hd
        have hdd := ht (by rw [hd]; simp)
        rw [hd] at hdd
        refine ⟨_, m, h, .here hs.mem (v' := .int .i64 (n : Int)) ?_ (.int _ _)⟩
        rw [run]
        simp [Builtin.len_, under w hdd.1, goInt]
      · simp at h
    · simp at h
  case min =>
    split at h
    · rename_i k x k' y hv
      obtain ⟨v', u', h1, h2, h3⟩ := args_two hs hv
      split at h
      · rename_i hk; subst hk
        refine ⟨_, m, h, .here hs.mem (v' := .int k (minI x y)) ?_ (.int _ _)⟩
        rw [resolve_min _ hb, h1, h2.int_inv, h3.int_inv]
        simp [Builtin.min_, min2_int]
      · simp at h
    · simp at h
  case max =>
    split at h
    · rename_i k x k' y hv
      obtain ⟨v', u', h1, h2, h3⟩ := args_two hs hv
      split at h
      · rename_i hk; subst hk
        refine ⟨_, m, h, .here hs.mem (v' := .int k (maxI x y)) ?_ (.int _ _)⟩
        rw [resolve_max _ hb, h1, h2.int_inv, h3.int_inv]
        simp [Builtin.max_, max2_int]
      · simp at h
    · simp at h
  case append =>
    split at h
    · rename_i t t2 p n cp x hat hv
      obtain ⟨v', u', h1, h2, h3⟩ := args_two hs hv
      have run := resolve_append (P := P) (w := w) (a := a) (dst := dst) (ty := ty) (pos := pos) (after := after) (guard := guard) c hb
      rw [h1, arr_two hat] at run
      split at h
      · rename_i el q l lc hd
        cases hn : notInt (C.T t2).d with
        | false => rw [hn] at h; simp at h
        | true =>
          rw [hn] at h
          simp only [cond_true, Option.bind_eq_some_iff] at h
          obtain ⟨new, hrd, h⟩ := h
          obtain ⟨new', h4, h5, h6⟩ := rdSl_sound (P := P) hs.mem hrd h3 (Nat.le_refl _)
          have hlen : ∀ w, (Builtin.lenOf u').run P w = .ok l w := by
            intro w
            rcases h3.sl_inv with ⟨rfl, rfl, rfl, rfl⟩ | ⟨x, x', c', rfl, rfl, _, _⟩ <;> rfl
          obtain ⟨s, m', v2, w', ρ', h7, h8, h9, h10, h11⟩ := appM_sound (P := P) (ty := ty) (K := fun s m => K (.slice s.a s.len s.cap) m) hs.tok hs.mem hd hn (Option.bind_eq_some_iff.2 h) h2 hlen h4 h5 h6
          exact ⟨_, m', h7, v2, w', ρ', .inl (by rw [run, h8]; rfl), h9, h10, h11⟩
      · rename_i el s hd
        cases hn : (notInt (C.T t2).d && Nat.beq (C.T el).size 1) with
        | false => rw [hn] at h; simp at h
        | true =>
          rw [hn] at h
          simp only [cond_true] at h
          simp only [Bool.and_eq_true] at hn
          have hsz1 := Nat.eq_of_beq_eq_true hn.2
          have h3' := h3.str_inv
          subst h3'
          rw [← hsz1] at h
          obtain ⟨s2, m', v2, w', ρ', h7, h8, h9, h10, h11⟩ := appM_sound (P := P) (ty := ty) (x' := .string s) (new' := bytesOf s) (K := fun s m => K (.slice s.a s.len s.cap) m) hs.tok hs.mem hd hn.1 h h2 (fun _ => rfl)
            (fun w' _ => by rw [firstCells_str _ _ _ (Nat.le_refl _), ← bytesOf_len, List.take_length]) (VRs.plain (bytesOf_plain s)) (by rw [bytesOf_len, hsz1, Nat.mul_one])
          exact ⟨_, m', h7, v2, w', ρ', .inl (by rw [run, h8]; rfl), h9, h10, h11⟩
      · rename_i el kx l hd
        cases hn : (isIntT (C.T t2).d && Nat.beq (C.T el).size 1 && Nat.beq (C.T el).bytes 1 && isZ8 (C.T el).zero && decide (0 < l) && decide (l ≤ 1000000)) with
        | false => rw [hn] at h; simp at h
        | true =>
          rw [hn] at h
          simp only [cond_true] at h
          simp only [Bool.and_eq_true, decide_eq_true_eq] at hn
          obtain ⟨⟨⟨⟨⟨n1, n2⟩, n3⟩, n4⟩, n5⟩, n6⟩ := hn
          have n2 := Nat.eq_of_beq_eq_true n2
          have n3 := Nat.eq_of_beq_eq_true n3
          have h3' := h3.int_inv
          subst h3'
          have hdd := (hs.tok t (by rw [hd]; simp)).desc
          rw [hd] at hdd
          have hte := hs.tok el hdd.2
          obtain ⟨i, hi1, hi2, hi3, z, hi4, hi5⟩ := hte.info
          obtain ⟨k2, hk2⟩ : ∃ k2, P.underlying t2 = some (.int k2) := by
            have hx := hs.tok t2 (by intro h; rw [h] at n1; simp [isIntT] at n1)
            have hxd := hx.desc
            cases hq : (C.T t2).d <;> rw [hq] at n1 hxd <;> simp only [isIntT, Bool.false_eq_true] at n1
            exact ⟨_, hxd⟩
          have hzc : z.cells.toList = [.int .u8 0] := by
            rw [hi5]
            unfold isZ8 at n4
            split at n4
            · rename_i n hz; simp only [decide_eq_true_eq] at n4; subst n4; exact hz
            · cases n4
          obtain ⟨ln, rfl⟩ := Int.eq_ofNat_of_zero_le (show 0 ≤ l by omega)
          simp only [Int.toNat_natCast] at h
          have hfit : n + ln ≤ cp ∨ n + ln ≤ most := by
            apply Classical.byContradiction
            intro hno
            have g1 : ¬ n + ln ≤ cp := fun g => hno (.inl g)
            have g2 : ¬ ((n + ln) * (C.T el).bytes ≤ most ∧ n + ln ≤ most) := fun g => hno (.inr g.2)
            unfold appM at h
            rw [if_neg g1, if_neg g2] at h
            simp at h
          obtain ⟨s2, m', v2, w', ρ', h7, h8, h9, h10, h11⟩ := appM_sound (P := P) (ty := ty) (xType := t) (x' := .string (zstr ln)) (new' := bytesOf (zstr ln)) (K := fun s m => K (.slice s.a s.len s.cap) m) hs.tok hs.mem hd (by rw [hd]; rfl) h h2 (fun _ => by simp [Builtin.lenOf, zstr_size])
            (fun w' _ => by rw [firstCells_str _ _ _ (by rw [zstr_size]; exact Nat.le_refl _), List.take_of_length_le (by rw [bytesOf_len, zstr_size]; exact Nat.le_refl _)]) (by rw [← zstr_bytes]; exact VRs.plain (bytesOf_plain _)) (by rw [← zstr_bytes, bytesOf_len, zstr_size, n2, Nat.mul_one])
          refine ⟨_, m', h7, v2, w', ρ', .inl ?_, h9, h10, h11⟩
          rw [run]
          rcases h2.sl_inv with ⟨rfl, rfl, rfl, rfl⟩ | ⟨b, b', c', rfl, rfl, h4, h5⟩
          · rw [append_zeros hdd.1 hk2 hi1 hi4 (by rw [hi2, n2]) (by rw [hi3, n3]) hzc none 0 0 ln _ (by omega) (by omega) hfit, h8]; rfl
          · have hcc : cp ≤ c' := by
              cases hsp : b.spot with
              | none => have := h5.2.2.1 hsp; omega
              | some y => exact (h5.2.2.2 y hsp).1
            rw [append_zeros hdd.1 hk2 hi1 hi4 (by rw [hi2, n2]) (by rw [hi3, n3]) hzc (some b') n c' ln _ (by omega) (by omega) (by omega), h8]; rfl
      · simp at h
    · simp at h
  case copy =>
    split at h
    · rename_i t ts p n cp x hat hv
      obtain ⟨v', u', h1, h2, h3⟩ := args_two hs hv
      have run := resolve_copy (P := P) (w := w) (a := a) (dst := dst) (ty := ty) (pos := pos) (after := after) (guard := guard) c hb
      rw [h1] at run
      have hat0 : c.argTypes[0]? = some t := by rw [← Array.getElem?_toList, hat]; rfl
      have fin : ∀ {el : Nat} (hd : (C.T t).d = .slice el) {l k : Nat} (hk : k = min l n) {new new' : List Value} (hlen : (Builtin.lenOf u').run P w = .ok l w) (hnew : (Builtin.firstCells (C.T el).size k u').run P w = .ok ⟨new'⟩ w)
          (hvs : VRs ρ m.length new new') (hnl : new.length = k * (C.T el).size) {m1 : Mem} (hst : oper.stSl m p new = some m1) (hK : K (.int .i64 (k : Int)) m1 = some r), ∃ v m', K v m' = some r ∧ Did P a ⟨dst, .call c, ty, pos, after, guard⟩ ρ m w v m' := by
        intro el hd l k hk new new' hlen hnew hvs hnl m1 hst hK
        have hdd := (hs.tok t (by rw [hd]; simp)).desc
        rw [hd] at hdd
        have hsz := (hs.tok el hdd.2).size w
        have e0 : (Builtin.copy_ c.argTypes ty #[v', u']).run P w = ((match (v' : Value) with | .slice (some x) _ _ => Go.storeCells x new' | _ => pure ()).run P w).andThen fun _ w' => .ok (.int .i64 (k : Int)) w' := by
          rcases h2.sl_inv with ⟨rfl, rfl, rfl, rfl⟩ | ⟨b, b', c', rfl, rfl, h4, h5⟩
          · have : k = 0 := by omega
            subst this
            simp [Builtin.copy_, hat0, under w hdd.1, hlen, hsz, goInt, hnew]
          · have hk' : Nat.min l n = k := hk.symm
            simp [Builtin.copy_, hat0, under w hdd.1, hlen, hsz, goInt, hnew, hk']
        rcases h2.sl_inv with ⟨rfl, rfl, rfl, rfl⟩ | ⟨b, b', c', rfl, rfl, h4, h5⟩
        · simp only [oper.stSl] at hst
          split at hst
          · simp at hst; subst hst
            refine ⟨_, m, hK, .here hs.mem (v' := .int .i64 (k : Int)) ?_ (.int _ _)⟩
            rw [run, e0]; rfl
          · simp at hst
        · simp only [oper.stSl] at hst
          have hnc' : n ≤ c' := h5.2.1
          rcases h5.1 with h6 | h6
          · have hk0 : k = 0 := by omega
            have hnn : new = [] := by apply List.eq_nil_of_length_eq_zero; rw [hnl, hk0]; simp
            subst hnn
            have hn0 : new' = [] := by apply List.eq_nil_of_length_eq_zero; have := hvs.len; simpa using this.symm
            subst hn0
            obtain ⟨cs, e1, e2, e3⟩ := stCells_inv hst
            have hself : m1 = m := by
              rw [e3]
              simp only [List.append_nil, List.length_nil, Nat.add_zero, List.take_append_drop]
              apply List.ext_getElem?
              intro j
              rw [List.getElem?_set]
              split
              · rename_i h; subst h
                exact (wcells_iff.1 e1).symm
              · rfl
            subst hself
            refine ⟨_, _, hK, .here hs.mem (v' := .int .i64 (k : Int)) ?_ (.int _ _)⟩
            rw [run, e0]; rfl
          · subst h6
            obtain ⟨w', h7, h8, h9⟩ := stCells_sound (P := P) hs.mem hst hvs
            refine ⟨_, _, hK, .int .i64 (k : Int), w', ρ, .inl ?_, .int _ _, h8, h9⟩
            rw [run, e0]
            simp only [h7, Result.andThen_ok]
      split at h
      · rename_i el q l lc hd
        simp only [Option.bind_eq_some_iff] at h
        obtain ⟨new, hrd, m1, hst, h⟩ := h
        obtain ⟨new', h4, h5, h6⟩ := rdSl_sound (P := P) hs.mem hrd h3 (Nat.min_le_left _ _)
        refine fin hd rfl ?_ (h4 w rfl) h5 h6 hst h
        rcases h3.sl_inv with ⟨rfl, rfl, rfl, rfl⟩ | ⟨x, x', c', rfl, rfl, _, _⟩ <;> rfl
      · rename_i el s hd
        cases hn : (Nat.beq (C.T el).size 1) with
        | false => rw [hn] at h; simp at h
        | true =>
          rw [hn] at h
          simp only [cond_true, Option.bind_eq_some_iff] at h
          obtain ⟨m1, hst, h⟩ := h
          have hsz1 := Nat.eq_of_beq_eq_true hn
          have h3' := h3.str_inv
          subst h3'
          refine fin hd rfl rfl (firstCells_str _ _ _ (Nat.min_le_left _ _)) ((VRs.plain (bytesOf_plain s)).take _) ?_ hst h
          rw [List.length_take, bytesOf_len, hsz1]
          omega
      · simp at h
    · simp at h
end
end Go.Mx
