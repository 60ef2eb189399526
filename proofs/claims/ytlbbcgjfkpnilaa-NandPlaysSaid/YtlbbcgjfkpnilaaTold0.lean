/- What the laws of chips begin with: new chips, what an argument holds, loads of what only grew. -/
import Derived.Test.YtlbbcgjfkpnilaaTwo4
import Derived.Test.YtlbbcgjfkpnilaaMxNest
set_option linter.unusedVariables false
set_option linter.unusedSectionVars false
set_option linter.unusedSimpArgs false
namespace Go.Proofs.Ytlbbcgjfkpnilaa
open Go.Mx

theorem own_gr {m m' : Mem} (h : Mx.Own m' (others m m.length)) : Gr m m' := by
  have hk := Own.keeps (m := m) (c := m.length) (X := []) h
  exact Ch.gr ⟨keeps_len hk (.inl (Nat.le_refl _)), fun p hp _ => hk p hp (by omega)⟩
theorem shownG (k : Nat) (hk : 200 < k) (m : Mem) : Ok (patinalaw05_shown k m) fun r => r.1 = true ∧ Gr m r.2 := (shown_ok k hk (own_none m)).mono fun r h => ⟨h.1, own_gr h.2⟩
theorem newG (k : Nat) (hk : 100 < k) (m : Mem) : Ok (nand_New k m) fun r => ∃ c, r.1 = some ⟨c, 0, none⟩ ∧ Gr m r.2 ∧ m.length ≤ c ∧ r.2[c]? = some (.live (chipC fresh)) := by
  refine (chipNew_ok k hk (own_none m)).mono ?_
  rintro ⟨_, m'⟩ ⟨c, rfl, hO⟩
  simp only at hO
  refine ⟨c, rfl, own_gr hO.tail, ?_, hO.at 0 rfl⟩
  rcases Nat.lt_or_ge c m.length with h3 | h3
  · exact absurd rfl (Own.far (m := m) (c := m.length) (d := c) (X := []) hO (fun _ _ _ => trivial) c h3 (by omega))
  · exact h3
theorem Gr.cells {m m' : Mem} (hg : Gr m m') {b : Nat} {cs : List Value} (h : m.cells b = some cs) : m'.cells b = some cs := by obtain ⟨g, rfl⟩ := hg; exact cells_grow h
theorem Gr.ldInt {m m' : Mem} (hg : Gr m m') {k : IntKind} {a : Addr} {z : Int} (h : Mx.ldInt k m a = some z) : Mx.ldInt k m' a = some z := by
  unfold Mx.ldInt at *
  obtain ⟨cs, h1, h2⟩ := Option.bind_eq_some_iff.1 h
  rw [hg.cells h1]; exact h2
theorem Gr.ldSl {m m' : Mem} (hg : Gr m m') {a : Addr} {z : Sl} (h : Mx.ldSl m a = some z) : Mx.ldSl m' a = some z := by
  unfold Mx.ldSl at *
  obtain ⟨cs, h1, h2⟩ := Option.bind_eq_some_iff.1 h
  rw [hg.cells h1]; exact h2
theorem Gr.ldCells {m m' : Mem} (hg : Gr m m') {a : Addr} {n : Nat} {z : List Value} (h : Mx.ldCells m a n = some z) : Mx.ldCells m' a n = some z := by
  unfold Mx.ldCells at *
  obtain ⟨cs, h1, h2⟩ := Option.bind_eq_some_iff.1 h
  rw [hg.cells h1]; exact h2
theorem ldCells_cell {m : Mem} {b o n q : Nat} {vs : List Value} {v : Value} (h : Mx.ldCells m ⟨b, o, none⟩ n = some vs) (hv : vs[q]? = some v) : ∃ cs, m.cells b = some cs ∧ cs[o + q]? = some v := by
  unfold Mx.ldCells at h
  obtain ⟨cs, h1, h2⟩ := Option.bind_eq_some_iff.1 h
  refine ⟨cs, h1, ?_⟩
  unfold cCells at h2
  split at h2
  · simp only [Option.some.injEq] at h2
    subst h2
    rw [List.getElem?_take] at hv
    split at hv
    · rw [List.getElem?_drop] at hv; exact hv
    · cases hv
  · cases h2
/-- an operation of a script -/
structure OpA (m : Mem) (i : Nat) (kk a b : Int) (sa : Option Addr) (sn sc : Nat) (w : Nat → GF) : Prop where
  cells : Mx.ldCells m ⟨0, i * 4, none⟩ 4 = some [.int .i64 kk, .int .i64 a, .int .i64 b, .slice sa sn sc]
  k_ : Mx.ldInt .i64 m ⟨0, i * 4, none⟩ = some kk
  a_ : Mx.ldInt .i64 m ⟨0, i * 4 + 1, none⟩ = some a
  b_ : Mx.ldInt .i64 m ⟨0, i * 4 + 2, none⟩ = some b
  s_ : Mx.ldSl m ⟨0, i * 4 + 3, none⟩ = some ⟨sa, sn, sc⟩
  src : Src m sa sn w
  sn_ : sn ≤ 140737488351232
  kr : -9223372036854775808 ≤ kk ∧ kk < 9223372036854775808
  ar : -9223372036854775808 ≤ a ∧ a < 9223372036854775808
  br : -9223372036854775808 ≤ b ∧ b < 9223372036854775808
theorem wf64 {z : Int} (h : (Lit.int .i64 z).wf = true) : -9223372036854775808 ≤ z ∧ z < 9223372036854775808 := by
  have e1 : IntKind.i64.min = -9223372036854775808 := rfl
  have e2 : IntKind.i64.max = 9223372036854775807 := rfl
  simp only [Lit.wf, e1, e2, Bool.and_eq_true, decide_eq_true_eq] at h
  omega
theorem flat_i64 {m : Mem} {v : Value} (h : NOk m (.flat (.int .i64)) v) : ∃ z, v = .int .i64 z ∧ -9223372036854775808 ≤ z ∧ z < 9223372036854775808 := by
  obtain ⟨z, rfl, h⟩ : ∃ n, v = .int .i64 n ∧ (Lit.int .i64 n).wf = true := h
  exact ⟨z, rfl, wf64 h⟩
theorem sl_src {m : Mem} {v : Value} (h : NOk m (.sl [.int .u8]) v) : ∃ p n c w, v = .slice p n c ∧ n ≤ 140737488351232 ∧ Src m p n w := by
  obtain ⟨p, n, c, cs, rfl, h1, h2, h3, h4, h5, h6⟩ : ∃ p len c cs, v = .slice p len c ∧ len ≤ c ∧ len ≤ 140737488351232 ∧ (len = 0 ∨ ∃ i, p = some ⟨i, 0, none⟩) ∧ rdSl m p len 1 = some cs ∧ cs.length = len * 1 ∧ ∀ (j k : Nat) q, j < len → ([Leaf.int .u8])[k]? = some q → q.Ok (cs.getD (j * 1 + k) undef) := h
  refine ⟨p, n, c, fun j => GF.of (intAt (cs.getD j undef)).toNat, rfl, h2, ?_⟩
  unfold Src
  rw [h4]
  congr 1
  apply List.ext_getElem?
  intro j
  by_cases hj : j < n
  · rw [bys_get hj]
    obtain ⟨z, h7, h8⟩ : ∃ z, cs.getD (j * 1 + 0) undef = .int .u8 z ∧ (Lit.int .u8 z).wf = true := h6 j 0 (.int .u8) hj rfl
    rw [Nat.mul_one, Nat.add_zero] at h7
    have h9 : cs[j]? = some (cs.getD j undef) := by rw [List.getD_eq_getElem?_getD, List.getElem?_eq_getElem (by omega)]; rfl
    have h10 : 0 ≤ z ∧ z < 256 := by
      have e1 : IntKind.u8.min = 0 := rfl
      have e2 : IntKind.u8.max = 255 := rfl
      simp only [Lit.wf, e1, e2, Bool.and_eq_true, decide_eq_true_eq] at h8
      omega
    rw [h9, h7, show intAt (Value.int .u8 z) = z from rfl, GF.v_of (by omega), Int.toNat_of_nonneg h10.1]
  · rw [List.getElem?_eq_none (by omega), List.getElem?_eq_none (by rw [bys_len]; omega)]
theorem opA {m : Mem} {p : Option Addr} {n : Nat} (h : NHolds m p n [.flat (.int .i64), .flat (.int .i64), .flat (.int .i64), .sl [.int .u8]]) {i : Nat} (hi : i < n) : p = some ⟨0, 0, none⟩ ∧ ∃ kk a b sa sn sc w, OpA m i kk a b sa sn sc w := by
  obtain ⟨h1, h2⟩ := h
  obtain ⟨vs, c1, c2, c3⟩ := h2 i hi
  have c1 : Mx.ldCells m ⟨0, i * 4, none⟩ 4 = some vs := c1
  have c2 : vs.length = 4 := c2
  obtain ⟨v0, g0, n0⟩ := c3 0 _ rfl
  obtain ⟨v1, g1, n1⟩ := c3 1 _ rfl
  obtain ⟨v2, g2, n2⟩ := c3 2 _ rfl
  obtain ⟨v3, g3, n3⟩ := c3 3 _ rfl
  obtain ⟨kk, rfl, r0⟩ := flat_i64 n0
  obtain ⟨a, rfl, r1⟩ := flat_i64 n1
  obtain ⟨b, rfl, r2⟩ := flat_i64 n2
  obtain ⟨sa, sn, sc, w, rfl, r3, r4⟩ := sl_src n3
  have hvs : vs = [.int .i64 kk, .int .i64 a, .int .i64 b, .slice sa sn sc] := by
    match vs, c2 with
    | [x0, x1, x2, x3], _ =>
      simp only [List.getElem?_cons_zero, List.getElem?_cons_succ, Option.some.injEq] at g0 g1 g2 g3
      rw [g0, g1, g2, g3]
  subst hvs
  refine ⟨h1 (by omega), kk, a, b, sa, sn, sc, w, c1, ?_, ?_, ?_, ?_, r4, r3, r0, r1, r2⟩
  · obtain ⟨cs, e1, e2⟩ := ldCells_cell c1 g0
    simp only [Nat.add_zero] at e2
    simp [Mx.ldInt, e1, cInt, e2]
  · obtain ⟨cs, e1, e2⟩ := ldCells_cell c1 g1
    simp [Mx.ldInt, e1, cInt, e2]
  · obtain ⟨cs, e1, e2⟩ := ldCells_cell c1 g2
    simp [Mx.ldInt, e1, cInt, e2]
  · obtain ⟨cs, e1, e2⟩ := ldCells_cell c1 g3
    simp [Mx.ldSl, e1, cSl, e2]
theorem OpA.grow {m m' : Mem} {i : Nat} {kk a b : Int} {sa : Option Addr} {sn sc : Nat} {w : Nat → GF} (h : OpA m i kk a b sa sn sc w) (hg : Gr m m') : OpA m' i kk a b sa sn sc w :=
  ⟨hg.ldCells h.cells, hg.ldInt h.k_, hg.ldInt h.a_, hg.ldInt h.b_, hg.ldSl h.s_, h.src.grow hg, h.sn_, h.kr, h.ar, h.br⟩
theorem pick11 (k : Nat) {z : Int} (h0 : 0 ≤ z) (h1 : z < 11) (M : Mem) : patinalaw05_pick k z 11 M = some (z, M) := by
  unfold patinalaw05_pick patinalaw05_pick_j1
  rw [decide_eq_false (by omega), cond_false, isZero_no (by omega), cond_false, tmod_pos h0, Int.emod_eq_of_lt h0 h1]
theorem pickN (k : Nat) (v n : Int) (hv : -9223372036854775808 ≤ v ∧ v < 9223372036854775808) (hn : 0 < n) : ∃ r, (∀ M, patinalaw05_pick k v n M = some (r, M)) ∧ 0 ≤ r ∧ r < n := by
  by_cases h : v < 0
  · refine ⟨(-(v + 1)) % n, fun M => ?_, Int.emod_nonneg _ (by omega), Int.emod_lt_of_pos _ hn⟩
    unfold patinalaw05_pick patinalaw05_pick_j1
    simp (disch := omega) only [Option.bind_some, Option.map_some, cond_true, cond_false, wrap_i64, tmod_pos, tdiv_pos, inRange_yes, inUpto_yes, isZero_no, decide_eq_true, decide_eq_false, Bool.not_true, Bool.not_false, Int.toNat_natCast, Nat.mul_one, beqI_yes, beqI_no, bneI_yes, bneI_no, isNil_nil, isNil_iface, wr_wr, Option.isNone_none, Option.isNone_some, plus, Nat.zero_add, Nat.add_zero]
    rw [show (0 : Int) - (v + 1) = -(v + 1) by omega]
  · refine ⟨v % n, fun M => ?_, Int.emod_nonneg _ (by omega), Int.emod_lt_of_pos _ hn⟩
    unfold patinalaw05_pick patinalaw05_pick_j1
    simp (disch := omega) only [Option.bind_some, Option.map_some, cond_true, cond_false, wrap_i64, tmod_pos, tdiv_pos, inRange_yes, inUpto_yes, isZero_no, decide_eq_true, decide_eq_false, Bool.not_true, Bool.not_false, Int.toNat_natCast, Nat.mul_one, beqI_yes, beqI_no, bneI_yes, bneI_no, isNil_nil, isNil_iface, wr_wr, Option.isNone_none, Option.isNone_some, plus, Nat.zero_add, Nat.add_zero]
/-- both chips and both of the document's, at the beginning -/
theorem begin_ok {m0 m1 m2 m3 m4 m5 : Mem} {c d : Nat} (h1 : Gr m0 m1) (h2 : Gr m1 m2) (hc : m1.length ≤ c) (hcc : m2[c]? = some (.live (chipC fresh))) (h3 : Gr m2 m3) (hd : m2.length ≤ d) (hdd : m3[d]? = some (.live (chipC fresh)))
    {lab : Nat → Option Lab} {g : RG} (h4 : Gr m3 m4) (hR : RefX m4 m3.length lab g fresh) (hl : ∀ p, lab p ≠ none → m3.length ≤ p) {lab' : Nat → Option Lab} {g' : RG} (h5 : Gr m4 m5) (hS : RefX m5 m4.length lab' g' fresh) (hl' : ∀ p, lab' p ≠ none → m4.length ≤ p) :
    ∃ ro X, TI m0 (m5 ++ [.live [.pointer (some ⟨c, 0, none⟩), .pointer (some ⟨d, 0, none⟩), .pointer (some ⟨m3.length, 0, none⟩), .pointer (some ⟨m4.length, 0, none⟩), .slice none 0 0, .slice none 0 0]]) m5.length c d m3.length m4.length ro g g' fresh fresh fresh fresh X ∧ Eqs X ∧ X.N = 0 ∧ X.lo = 0 := by
  have l1 := h1.len
  have l2 := h2.len
  have l3 := h3.len
  have l4 := h4.len
  have l5 := h5.len
  have cl := get_lt hcc
  have dl := get_lt hdd
  let ro : Nat → Option Role := fun p => if p = m5.length then some .T else if p = c then some .c else if p = d then some .d else match lab p with
    | some l => some (.r l)
    | none => match lab' p with
      | some l => some (.s l)
      | none => none
  let X : TX := ⟨0, 0, 0, none, none, fun _ => none, fun _ => none, fun _ => 0, fun _ => 0, fun _ _ => 0, fun _ _ => 0⟩
  have e1 : lrOf ro = lab := by
    funext p
    show (match (if p = m5.length then some Role.T else if p = c then some .c else if p = d then some .d else match lab p with
      | some l => some (.r l)
      | none => match lab' p with
        | some l => some (.s l)
        | none => none) with | some (.r l) => some l | _ => none) = lab p
    cases hp : lab p with
    | none =>
      split
      · rename_i l hq
        split at hq
        · cases hq
        · split at hq
          · cases hq
          · split at hq
            · cases hq
            · simp only at hq
              split at hq <;> cases hq
      · rfl
    | some l =>
      have q1 := hl p (by rw [hp]; simp)
      have q2 := hR.lt p (by rw [hp]; simp)
      rw [if_neg (by omega), if_neg (by omega), if_neg (by omega)]
  have e2 : lsOf ro = lab' := by
    funext p
    show (match (if p = m5.length then some Role.T else if p = c then some .c else if p = d then some .d else match lab p with
      | some l => some (.r l)
      | none => match lab' p with
        | some l => some (.s l)
        | none => none) with | some (.s l) => some l | _ => none) = lab' p
    cases hp : lab' p with
    | none =>
      split
      · rename_i l hq
        split at hq
        · cases hq
        · split at hq
          · cases hq
          · split at hq
            · cases hq
            · split at hq <;> cases hq
      · rfl
    | some l =>
      have q1 := hl' p (by rw [hp]; simp)
      have q2 := hS.lt p (by rw [hp]; simp)
      have q3 : lab p = none := by
        cases hq : lab p with
        | none => rfl
        | some x => have := hR.lt p (by rw [hq]; simp); omega
      rw [if_neg (by omega), if_neg (by omega), if_neg (by omega), q3]
  refine ⟨ro, X, ⟨((((h1.trans h2).trans h3).trans h4).trans h5).trans (Gr.app _ _), ⟨get_last rfl, if_pos rfl⟩, ⟨get_grow (h5.get (h4.get (h3.get hcc))), ?_⟩, ⟨get_grow (h5.get (h4.get hdd)), ?_⟩, by rw [e1]; exact hR.grow (h5.trans (Gr.app _ _)), by rw [e2]; exact hS.grow (Gr.app _ _), .inl ⟨rfl, rfl⟩, .inl ⟨rfl, rfl⟩, fun i _ hi => absurd hi (Nat.not_lt_zero _), fun i _ hi => absurd hi (Nat.not_lt_zero _), fun p hp => ?_⟩, ⟨rfl, fun i _ hi => absurd hi (Nat.not_lt_zero _)⟩, rfl, rfl⟩
  · show (if _ then _ else _) = _
    rw [if_neg (by omega), if_pos rfl]
  · show (if _ then _ else _) = _
    rw [if_neg (by omega), if_neg (by omega), if_pos rfl]
  · have hp : (if p = m5.length then some Role.T else if p = c then some .c else if p = d then some .d else match lab p with
      | some l => some (.r l)
      | none => match lab' p with
        | some l => some (.s l)
        | none => none) ≠ none := hp
    have hz : (m5 ++ [MObj.live [.pointer (some ⟨c, 0, none⟩), .pointer (some ⟨d, 0, none⟩), .pointer (some ⟨m3.length, 0, none⟩), .pointer (some ⟨m4.length, 0, none⟩), .slice none 0 0, .slice none 0 0]]).length = m5.length + 1 := by simp
    rw [hz]
    split at hp
    · omega
    · split at hp
      · omega
      · split at hp
        · omega
        · split at hp
          · rename_i l hq
            have q1 := hl p (by rw [hq]; simp)
            have q2 := hR.lt p (by rw [hq]; simp)
            omega
          · split at hp
            · rename_i l hq
              have q1 := hl' p (by rw [hq]; simp)
              have q2 := hS.lt p (by rw [hq]; simp)
              omega
            · exact absurd rfl hp
end Go.Proofs.Ytlbbcgjfkpnilaa
