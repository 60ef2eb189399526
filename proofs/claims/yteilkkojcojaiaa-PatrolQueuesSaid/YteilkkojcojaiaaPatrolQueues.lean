/- The plain law of PatrolQueues: blocks wait once each, in the order in which they came. -/
import Derived.Test.YteilkkojcojaiaaQueue
import Derived.Test.YteilkkojcojaiaaFLPatrolQueues
set_option linter.unusedVariables false
set_option linter.unusedSimpArgs false
namespace Go.Proofs.Yteilkkojcojaiaa
open Go.Mx

theorem pick15_eq (k : Nat) (c n : Int) (m : Mem) (h1 : -9223372036854775808 ≤ c) (h2 : c < 9223372036854775808) (hn : 0 < n) : patinalaw15_pick k c n m = some ((if c < 0 then -(c + 1) else c) % n, m) := by
  unfold patinalaw15_pick patinalaw15_pick_j1
  by_cases h : c < 0
  · simp (disch := omega) only [Option.bind_some, Option.map_some, cond_true, cond_false, wrap_i64, tmod_pos, tdiv_pos, inRange_yes, inUpto_yes, isZero_no, decide_eq_true, decide_eq_false, Bool.not_true, Bool.not_false, Int.toNat_natCast, Nat.mul_one, beqI_yes, beqI_no, bneI_yes, bneI_no, isNil_nil, isNil_iface, wr_wr, Option.isNone_none, Option.isNone_some, plus, Nat.zero_add, Nat.add_zero, if_pos h]
    simp only [show 0 - (c + 1) = -(c + 1) by omega]
  · simp (disch := omega) only [Option.bind_some, Option.map_some, cond_true, cond_false, wrap_i64, tmod_pos, tdiv_pos, inRange_yes, inUpto_yes, isZero_no, decide_eq_true, decide_eq_false, Bool.not_true, Bool.not_false, Int.toNat_natCast, Nat.mul_one, beqI_yes, beqI_no, bneI_yes, bneI_no, isNil_nil, isNil_iface, wr_wr, Option.isNone_none, Option.isNone_some, plus, Nat.zero_add, Nat.add_zero, if_neg h]
def pickI (c n : Int) : Int := (if c < 0 then -(c + 1) else c) % n
theorem pickI_range (c : Int) {n : Int} (hn : 0 < n) : 0 ≤ pickI c n ∧ pickI c n < n := ⟨Int.emod_nonneg _ (by omega), Int.emod_lt_of_pos _ hn⟩
theorem pick15_ok (k : Nat) (c n : Int) (m : Mem) (h : (Lit.int .i64 c).wf = true) (hn : 0 < n) : patinalaw15_pick k c n m = some (pickI c n, m) := by
  have := wf_i64 h
  exact pick15_eq k c n m this.1 this.2 hn

theorem up15_ok (k : Nat) (o : MObj) : ∃ m, patinalaw15_up (k + 40) [o] = some (true, m) ∧ m[0]? = some o := by
  have h : (patinalaw15_up (k + 40) [o]).map (fun r => (r.1, r.2[0]?)) = some (true, some o) := by kernel_rfl
  obtain ⟨⟨b, m⟩, h1, h2⟩ := Option.map_eq_some_iff.1 h
  simp only [Prod.mk.injEq] at h2
  exact ⟨m, by rw [h1, h2.1], h2.2⟩

theorem rqueue_Add_ok (k : Nat) (hk : 20 < k) {m : Mem} {q : Nat} {l : List Int} {F : Heap} (hQ : Que m q l F) (hl : QWf l) (v : Int) :
    Ok (patinaref15_Queue_Add k (some ⟨q, 0, none⟩) v m) fun r => r.1 = addC v ∧ Que r.2 q (addL l v) F := by
  unfold patinaref15_Queue_Add addC addL
  by_cases h1 : v < 0
  · simp (disch := omega) only [Option.bind_some, Option.map_some, cond_true, cond_false, wrap_i64, tmod_pos, tdiv_pos, inRange_yes, inUpto_yes, isZero_no, decide_eq_true, decide_eq_false, Bool.not_true, Bool.not_false, Int.toNat_natCast, Nat.mul_one, beqI_yes, beqI_no, bneI_yes, bneI_no, isNil_nil, isNil_iface, wr_wr, Option.isNone_none, Option.isNone_some, plus, Nat.zero_add, Nat.add_zero, if_pos (show v < 0 ∨ v ≥ 12 by omega)]; exact .some ⟨rfl, hQ⟩
  · by_cases h2 : v > 11
    · simp (disch := omega) only [Option.bind_some, Option.map_some, cond_true, cond_false, wrap_i64, tmod_pos, tdiv_pos, inRange_yes, inUpto_yes, isZero_no, decide_eq_true, decide_eq_false, Bool.not_true, Bool.not_false, Int.toNat_natCast, Nat.mul_one, beqI_yes, beqI_no, bneI_yes, bneI_no, isNil_nil, isNil_iface, wr_wr, Option.isNone_none, Option.isNone_some, plus, Nat.zero_add, Nat.add_zero, if_pos (show v < 0 ∨ v ≥ 12 by omega)]; exact .some ⟨rfl, hQ⟩
    · have hlen := hl.len
      obtain ⟨a, n, H, hV, hO⟩ := hQ
      have hn := hV.len
      simp only [ints_length, Nat.mul_one] at hn
      have e := ldSl_of (sp := none) (off := 0) (hO.at 0 rfl) rfl
      simp (disch := omega) only [Option.bind_some, Option.map_some, cond_true, cond_false, wrap_i64, tmod_pos, tdiv_pos, inRange_yes, inUpto_yes, isZero_no, decide_eq_true, decide_eq_false, Bool.not_true, Bool.not_false, Int.toNat_natCast, Nat.mul_one, beqI_yes, beqI_no, bneI_yes, bneI_no, isNil_nil, isNil_iface, wr_wr, Option.isNone_none, Option.isNone_some, plus, Nat.zero_add, Nat.add_zero, if_neg (show ¬ (v < 0 ∨ v ≥ 12) by omega)]
      refine patinaref15_Queue_Add_l0_rule k _ _ (fun d x0 x1 x5 m' => some ⟨q, 0, none⟩ = x0 ∧ v = x1 ∧ m = m' ∧ 0 ≤ x5 ∧ x5 + d = n ∧ v ∉ l.take x5.toNat) ?_ k n _ _ 0 _ (by omega) ⟨rfl, rfl, rfl, by omega, by omega, by simp⟩
      rintro d nx _ _ i _ ⟨rfl, rfl, rfl, hi, hd, hv⟩ hnx
      unfold patinaref15_Queue_Add_l0_b
      by_cases h3 : i < (n : Int)
      · obtain ⟨b, off, sp, cs, ha, e1, e2⟩ := hV.get hO.tail (i := i.toNat) (by omega) (ints_get (by omega))
        subst ha
        simp (disch := omega) only [Option.bind_some, Option.map_some, cond_true, cond_false, wrap_i64, tmod_pos, tdiv_pos, inRange_yes, inUpto_yes, isZero_no, decide_eq_true, decide_eq_false, Bool.not_true, Bool.not_false, Int.toNat_natCast, Nat.mul_one, beqI_yes, beqI_no, bneI_yes, bneI_no, isNil_nil, isNil_iface, wr_wr, Option.isNone_none, Option.isNone_some, plus, Nat.zero_add, Nat.add_zero, e, ldInt_of e1 e2]
        by_cases h4 : l[i.toNat] = v
        · simp (disch := omega) only [Option.bind_some, Option.map_some, cond_true, cond_false, wrap_i64, tmod_pos, tdiv_pos, inRange_yes, inUpto_yes, isZero_no, decide_eq_true, decide_eq_false, Bool.not_true, Bool.not_false, Int.toNat_natCast, Nat.mul_one, beqI_yes, beqI_no, bneI_yes, bneI_no, isNil_nil, isNil_iface, wr_wr, Option.isNone_none, Option.isNone_some, plus, Nat.zero_add, Nat.add_zero, if_pos (show v ∈ l from h4 ▸ List.getElem_mem _)]
          exact .some ⟨rfl, _, n, H, hV, hO⟩
        · simp (disch := omega) only [Option.bind_some, Option.map_some, cond_true, cond_false, wrap_i64, tmod_pos, tdiv_pos, inRange_yes, inUpto_yes, isZero_no, decide_eq_true, decide_eq_false, Bool.not_true, Bool.not_false, Int.toNat_natCast, Nat.mul_one, beqI_yes, beqI_no, bneI_yes, bneI_no, isNil_nil, isNil_iface, wr_wr, Option.isNone_none, Option.isNone_some, plus, Nat.zero_add, Nat.add_zero]
          refine hnx (d - 1) _ _ _ _ (by omega) ⟨rfl, rfl, rfl, by omega, by omega, ?_⟩
          rw [show (i + 1).toNat = i.toNat + 1 by omega, List.take_succ_eq_append_getElem (by omega)]
          simp only [List.mem_append, List.mem_singleton, not_or]
          exact ⟨hv, fun h => h4 h.symm⟩
      · have hvl : v ∉ l := by
          rw [List.take_of_length_le (by omega)] at hv
          exact hv
        have hO' : Own m (H ++ ((q, .live [.slice a n n]) :: F)) := by
          simpa using Own.blk [[(q, .live [.slice a n n])], H, F] [1, 0, 2] (by simpa using hO) (by decide)
        obtain ⟨a', m', e1, e2, e3⟩ := hV.one (y := 8) (v := .int .i64 v) hO' (by unfold most; omega) (by unfold most; omega)
        have e3' : Own m' ((q, .live [.slice a n n]) :: (slH a' (ints l ++ [.int .i64 v]) ++ F)) := by
          simpa using Own.blk [slH a' (ints l ++ [.int .i64 v]), [(q, .live [.slice a n n])], F] [1, 0, 2] (by simpa using e3) (by decide)
        simp (disch := omega) only [Option.bind_some, Option.map_some, cond_true, cond_false, wrap_i64, tmod_pos, tdiv_pos, inRange_yes, inUpto_yes, isZero_no, decide_eq_true, decide_eq_false, Bool.not_true, Bool.not_false, Int.toNat_natCast, Nat.mul_one, beqI_yes, beqI_no, bneI_yes, bneI_no, isNil_nil, isNil_iface, wr_wr, Option.isNone_none, Option.isNone_some, plus, Nat.zero_add, Nat.add_zero, e, if_neg hvl, rdSl_new, e1, st_wr (sp := none) (off := 0) (v := .slice a' (n + 1) (n + 1)) (e3'.at 0 rfl) (by simp)]
        refine .some ⟨rfl, a', n + 1, _, ?_, e3'.wr 0 rfl _⟩
        rw [ints_append]; exact e2.vec
theorem rqueue_Next_ok (k : Nat) {m : Mem} {q : Nat} {l : List Int} {F : Heap} (hQ : Que m q l F) (hl : QWf l) :
    Ok (patinaref15_Queue_Next k (some ⟨q, 0, none⟩) m) fun r => r.1 = l.headD 0 ∧ r.2.1 = !l.isEmpty ∧ Que r.2.2 q l.tail F := by
  unfold patinaref15_Queue_Next
  have hlen := hl.len
  obtain ⟨a, n, H, hV, hO⟩ := hQ
  have hn := hV.len
  simp only [ints_length, Nat.mul_one] at hn
  have e := ldSl_of (sp := none) (off := 0) (hO.at 0 rfl) rfl
  cases l with
  | nil =>
    simp only [List.length_nil] at hn
    simp (disch := omega) only [Option.bind_some, Option.map_some, cond_true, cond_false, wrap_i64, tmod_pos, tdiv_pos, inRange_yes, inUpto_yes, isZero_no, decide_eq_true, decide_eq_false, Bool.not_true, Bool.not_false, Int.toNat_natCast, Nat.mul_one, beqI_yes, beqI_no, bneI_yes, bneI_no, isNil_nil, isNil_iface, wr_wr, Option.isNone_none, Option.isNone_some, plus, Nat.zero_add, Nat.add_zero, e]
    exact .some ⟨rfl, rfl, a, n, H, hV, hO⟩
  | cons x l =>
    simp only [List.length_cons] at hn hlen
    have hg := hV.get hO.tail (i := 0) (by omega) (show (ints (x :: l))[0]? = some (.int .i64 x) from rfl)
    rcases hV with ⟨_, h1, _, _⟩ | ⟨b, off, sp, cs, rfl, rfl, h2, h3, h4, h5⟩
    · omega
    · obtain ⟨b', off', sp', cs', h6, h7, h8⟩ := hg
      simp only [Option.some.injEq, Addr.mk.injEq] at h6
      obtain ⟨rfl, rfl, rfl⟩ := h6
      have hb := hO.at 1 rfl
      rw [hb] at h7; simp only [Option.some.injEq, MObj.live.injEq] at h7; subst h7
      have h8' : cs[off]? = some (.int .i64 x) := by simpa using h8
      have hz : sliceK.okZ (some ⟨b, off, sp⟩) 1 false = true := by
        rcases h5 with rfl | rfl <;> rfl
      have hcl : sliceK.clear (some ⟨b, off, sp⟩) false = some ⟨b, off, sp⟩ := rfl
      have h1u : inUpto 1 n = true := inUpto_yes (by omega) (by omega)
      simp (disch := omega) only [Option.bind_some, Option.map_some, cond_true, cond_false, wrap_i64, tmod_pos, tdiv_pos, inRange_yes, inUpto_yes, isZero_no, decide_eq_true, decide_eq_false, Bool.not_true, Bool.not_false, Int.toNat_natCast, Nat.mul_one, beqI_yes, beqI_no, bneI_yes, bneI_no, isNil_nil, isNil_iface, wr_wr, Option.isNone_none, Option.isNone_some, plus, Nat.zero_add, Nat.add_zero, e, ldInt_of (sp := sp) hb h8', show (0 : Int).toNat = 0 from rfl, hz, h1u, Bool.and_true, hcl, show (1 : Int).toNat = 1 from rfl, List.headD_cons, List.isEmpty_cons, List.tail_cons]
      have hv : (cs.drop (off + 1)).take (n - 1) = ints l := by
        rw [Nat.mul_one] at h4
        have := congrArg (List.drop 1) h4
        rw [List.drop_take, List.drop_drop] at this
        rw [this]; rfl
      simp (disch := omega) only [Option.bind_some, Option.map_some, cond_true, cond_false, wrap_i64, tmod_pos, tdiv_pos, inRange_yes, inUpto_yes, isZero_no, decide_eq_true, decide_eq_false, Bool.not_true, Bool.not_false, Int.toNat_natCast, Nat.mul_one, beqI_yes, beqI_no, bneI_yes, bneI_no, isNil_nil, isNil_iface, wr_wr, Option.isNone_none, Option.isNone_some, plus, Nat.zero_add, Nat.add_zero, st_wr (sp := none) (off := 0) (v := .slice (some ⟨b, off + 1, sp⟩) (n - 1) (n - 1)) (hO.at 0 rfl) (by simp)]
      refine .some ⟨rfl, rfl, _, n - 1, [(b, .live cs)], .inr ⟨b, off + 1, sp, cs, rfl, rfl, by simp; omega, by omega, by simpa using hv, h5⟩, hO.wr 0 rfl _⟩

/-- both hold the same -/
def Both (m : Mem) (q r : Nat) (l : List Int) (F : Heap) : Prop := ∃ a n H a' n' H', Vec 1 a n (ints l) H ∧ Vec 1 a' n' (ints l) H' ∧ Own m ((q, .live [.slice a n n]) :: (H ++ ((r, .live [.slice a' n' n']) :: (H' ++ F))))

theorem both_step {m : Mem} {q r : Nat} {l l' : List Int} {F : Heap} {R S : Type} {x : Mem → Option R} {y : R → Option S} {P : R → Prop} {P' : S → Prop} {mR : R → Mem} {mS : S → Mem} (h : Both m q r l F)
    (h1 : ∀ F, Que m q l F → Ok (x m) fun t => P t ∧ Que (mR t) q l' F) (h2 : ∀ t F, P t → Que (mR t) r l F → Ok (y t) fun s => P' s ∧ Que (mS s) r l' F) {K : R → S → Option (Bool × Mem)} {Q : Bool × Mem → Prop}
    (hx : ∀ t s, P t → P' s → Both (mS s) q r l' F → Ok (K t s) Q) : Ok ((x m).bind fun t => (y t).bind fun s => K t s) Q := by
  obtain ⟨a, n, H, a', n', H', v1, v2, hO⟩ := h
  refine .bind (h1 _ ⟨a, n, H, v1, hO⟩) ?_
  rintro t ⟨pt, a1, n1, H1, v3, hO1⟩
  have hO1' : Own (mR t) ((r, .live [.slice a' n' n']) :: (H' ++ ((q, .live [.slice a1 n1 n1]) :: (H1 ++ F)))) := by
    simpa using Own.blk [[(q, .live [.slice a1 n1 n1])], H1, [(r, .live [.slice a' n' n'])], H', F] [2, 3, 0, 1, 4] (by simpa using hO1) (by decide)
  refine .bind (h2 t _ pt ⟨a', n', H', v2, hO1'⟩) ?_
  rintro s ⟨ps, a2, n2, H2, v4, hO2⟩
  refine hx t s pt ps ⟨a1, n1, H1, a2, n2, H2, v3, v4, ?_⟩
  simpa using Own.blk [[(r, .live [.slice a2 n2 n2])], H2, [(q, .live [.slice a1 n1 n1])], H1, F] [2, 3, 0, 1, 4] (by simpa using hO2) (by decide)

theorem pqj1_ok (k : Nat) {m : Mem} {q r N c' : Nat} {a : Option Addr} {i : Int} {l : List Int} {F : Heap} {nx : Option Addr → Nat → Nat → Bool → Addr → Addr → Int → Mem → Option (Bool × Mem)} {kx0 : Bool → Mem → Option (Bool × Mem)} {P : Bool × Mem → Prop} (h : Both m q r l F) (hl : QWf l) (hi : 0 ≤ i ∧ i < 1000000000000000)
    (hx : Ok (nx a N c' true ⟨q, 0, none⟩ ⟨r, 0, none⟩ (i + 1) m) P) : Ok (patinalaw15_PatrolQueues_j1 k a N c' true ⟨q, 0, none⟩ ⟨r, 0, none⟩ i nx kx0 m) P := by
  obtain ⟨a1, n1, H1, a2, n2, H2, v1, v2, hO⟩ := h
  have hO' : Own m ((r, .live [.slice a2 n2 n2]) :: (H2 ++ ((q, .live [.slice a1 n1 n1]) :: (H1 ++ F)))) := by
    simpa using Own.blk [[(q, .live [.slice a1 n1 n1])], H1, [(r, .live [.slice a2 n2 n2])], H2, F] [2, 3, 0, 1, 4] (by simpa using hO) (by decide)
  have hn2 := v2.len
  simp only [ints_length, Nat.mul_one] at hn2
  unfold patinalaw15_PatrolQueues_j1
  simp (disch := omega) only [Option.bind_some, Option.map_some, cond_true, cond_false, wrap_i64, tmod_pos, tdiv_pos, inRange_yes, inUpto_yes, isZero_no, decide_eq_true, decide_eq_false, Bool.not_true, Bool.not_false, Int.toNat_natCast, Nat.mul_one, beqI_yes, beqI_no, bneI_yes, bneI_no, isNil_nil, isNil_iface, wr_wr, Option.isNone_none, Option.isNone_some, plus, Nat.zero_add, Nat.add_zero, queue_Len_is k ⟨a1, n1, H1, v1, hO⟩, ldSl_of (sp := none) (off := 0) (hO'.at 0 rfl) rfl, eq_self, decide_true, Nat.beq_refl, Bool.and_self]
  exact hx

theorem patrolQueues_run (o : MObj) (a : Option Addr) (N c' : Nat) (cs : List Value) (hh : Holds o 0 a N [.int .i64, .int .i64] cs) (hc : N ≤ c') (hN : N * 16 ≤ 140737488351232) :
    ∃ k m', patinalaw15_PatrolQueues k a N c' [o] = some (true, m') := by
  obtain ⟨m1, e1, e3⟩ := up15_ok (N + 1000) o
  have hk : 100 + N < N + 1000 + 40 := by omega
  generalize N + 1000 + 40 = k at e1 hk
  refine ⟨k, ?_⟩
  have key : Ok (patinalaw15_PatrolQueues k a N c' [o]) fun r => r.1 = true := by
    unfold patinalaw15_PatrolQueues
    have hO0 : Own m1 [(0, o)] := ⟨by simp, by simp [e3]⟩
    have hO1 := (hO0.new (.live [.slice none 0 0])).new (.live [.slice none 0 0])
    simp (disch := omega) only [Option.bind_some, Option.map_some, cond_true, cond_false, wrap_i64, tmod_pos, tdiv_pos, inRange_yes, inUpto_yes, isZero_no, decide_eq_true, decide_eq_false, Bool.not_true, Bool.not_false, Int.toNat_natCast, Nat.mul_one, beqI_yes, beqI_no, bneI_yes, bneI_no, isNil_nil, isNil_iface, wr_wr, Option.isNone_none, Option.isNone_some, plus, Nat.zero_add, Nat.add_zero, e1]
    generalize hq : m1.length = q at *
    generalize hr : (m1 ++ [MObj.live [.slice none 0 0]]).length = r at *
    refine patinalaw15_PatrolQueues_l0_rule k _ _ (fun d x0a x0n x0c x3 x4 x5 x6 m => a = x0a ∧ N = x0n ∧ c' = x0c ∧ true = x3 ∧ ⟨q, 0, none⟩ = x4 ∧ ⟨r, 0, none⟩ = x5 ∧ 0 ≤ x6 ∧ x6 + d = N ∧ ∃ l, QWf l ∧ Both m q r l [(0, o)])
      ?_ k N _ _ _ _ _ _ 0 _ (by omega) ⟨rfl, rfl, rfl, rfl, rfl, rfl, by omega, by omega, [], .nil, none, 0, [], none, 0, [], .nil, .nil, hO1.pick [1, 0, 2] 3 (by decide)⟩
    rintro d nx _ _ _ _ _ _ i m ⟨rfl, rfl, rfl, rfl, rfl, rfl, hi, hd, l, hl, hB⟩ hnx
    unfold patinalaw15_PatrolQueues_l0_b
    by_cases h1 : i < N
    · have hp := hh.ptr (j := i.toNat) (by omega)
      subst hp
      have read : ∀ m l', Both m q r l' [(0, o)] → ∀ z, ldInt .i64 m ⟨0, i.toNat * 2 + z, none⟩ = if z = 0 then some (intAt (cs.getD (i.toNat * 2 + 0) undef)) else if z = 1 then some (intAt (cs.getD (i.toNat * 2 + 1) undef)) else ldInt .i64 m ⟨0, i.toNat * 2 + z, none⟩ := by
        intro m l' ⟨a1, n1, H1, a2, n2, H2, v1, v2, hO⟩ z
        have ho : Own m [(0, o)] := by
          have := Own.blk [[(q, .live [.slice a1 n1 n1])], H1, [(r, .live [.slice a2 n2 n2])], H2, [(0, o)]] [4] (by simpa using hO) (by decide)
          simpa using this
        split
        · rename_i h; subst h
          exact hh.ldInt (ho.at 0 rfl) (j := i.toNat) (q := 0) (by omega) rfl rfl
        · split
          · rename_i h; subst h
            exact hh.ldInt (ho.at 0 rfl) (j := i.toNat) (q := 1) (by omega) rfl rfl
          · rfl
      have r0 := read m l hB 0
      have r1 := read m l hB 1
      simp only [if_true, Nat.add_zero] at r0
      simp only [Nat.one_ne_zero, if_false, if_true] at r1
      have w0 := (hh.int (j := i.toNat) (q := 0) (k := .i64) (by omega) rfl).1
      simp only [List.length_cons, List.length_nil, Nat.zero_add, Nat.reduceAdd] at w0
      generalize intAt (cs.getD (i.toNat * 2 + 0) undef) = u at *
      generalize hv : intAt (cs.getD (i.toNat * 2 + 1) undef) = v at *
      obtain ⟨p1, p2⟩ := pickI_range u (n := 4) (by omega)
      have next : ∀ m' l', QWf l' → Both m' q r l' [(0, o)] → Ok (patinalaw15_PatrolQueues_j1 k (some ⟨0, 0, none⟩) N c' true ⟨q, 0, none⟩ ⟨r, 0, none⟩ i nx (fun y2 m20 => some (y2, m20)) m') fun r => r.1 = true := fun m' l' hl' hB' =>
        pqj1_ok k hB' hl' (by omega) (hnx (d - 1) _ _ _ _ _ _ _ _ (by omega) ⟨rfl, rfl, rfl, rfl, rfl, rfl, by omega, by omega, l', hl', hB'⟩)
      simp (disch := omega) only [Option.bind_some, Option.map_some, cond_true, cond_false, wrap_i64, tmod_pos, tdiv_pos, inRange_yes, inUpto_yes, isZero_no, decide_eq_true, decide_eq_false, Bool.not_true, Bool.not_false, Int.toNat_natCast, Nat.mul_one, beqI_yes, beqI_no, bneI_yes, bneI_no, isNil_nil, isNil_iface, wr_wr, Option.isNone_none, Option.isNone_some, plus, Nat.zero_add, Nat.add_zero, r0, pick15_ok k u 4 _ w0 (by omega)]
      have hu0 : inRange i N = true := inRange_yes hi (by omega)
      have rd1 : ∀ m', Own m' [(0, o)] → ldInt .i64 m' ⟨0, i.toNat * 2 + 1, none⟩ = some v := by
        intro m' ho
        have := hh.ldInt (ho.at 0 rfl) (j := i.toNat) (q := 1) (by omega) rfl rfl
        simp only [List.length_cons, List.length_nil, Nat.zero_add, Nat.reduceAdd] at this
        rw [this, hv]
      have add : ∀ z : Bool, z = true → Ok (patinalaw15_PatrolQueues_j2 k (some ⟨0, 0, none⟩) N c' true ⟨q, 0, none⟩ ⟨r, 0, none⟩ i nx (fun y2 m20 => some (y2, m20)) (pickI u 4, m) z m) fun r => r.1 = true := by
        rintro z rfl
        unfold patinalaw15_PatrolQueues_j2
        obtain ⟨a1, n1, H1, a2, n2, H2, v1, v2, hO⟩ := hB
        simp (disch := omega) only [Option.bind_some, Option.map_some, cond_true, cond_false, wrap_i64, tmod_pos, tdiv_pos, inRange_yes, inUpto_yes, isZero_no, decide_eq_true, decide_eq_false, Bool.not_true, Bool.not_false, Int.toNat_natCast, Nat.mul_one, beqI_yes, beqI_no, bneI_yes, bneI_no, isNil_nil, isNil_iface, wr_wr, Option.isNone_none, Option.isNone_some, plus, Nat.zero_add, Nat.add_zero, r1, hu0]
        refine .bind (queue_Add_ok k (by omega) ⟨a1, n1, H1, v1, hO⟩ hl v) ?_
        rintro ⟨e, m2⟩ ⟨rfl, a3, n3, H3, v3, hO2⟩
        simp only at hO2 ⊢
        have hO2' : Own m2 ((r, .live [.slice a2 n2 n2]) :: (H2 ++ ((q, .live [.slice a3 n3 n3]) :: (H3 ++ [(0, o)])))) := by
          simpa using Own.blk [[(q, .live [.slice a3 n3 n3])], H3, [(r, .live [.slice a2 n2 n2])], H2, [(0, o)]] [2, 3, 0, 1, 4] (by simpa using hO2) (by decide)
        have ho2 : Own m2 [(0, o)] := by
          simpa using Own.blk [[(q, .live [.slice a3 n3 n3])], H3, [(r, .live [.slice a2 n2 n2])], H2, [(0, o)]] [4] (by simpa using hO2) (by decide)
        have hac : addC v = 0 ∨ addC v = 1 := by unfold addC; split <;> simp
        rw [code_is k (addC v) m2 (by omega)]
        simp (disch := omega) only [Option.bind_some, Option.map_some, cond_true, cond_false, wrap_i64, tmod_pos, tdiv_pos, inRange_yes, inUpto_yes, isZero_no, decide_eq_true, decide_eq_false, Bool.not_true, Bool.not_false, Int.toNat_natCast, Nat.mul_one, beqI_yes, beqI_no, bneI_yes, bneI_no, isNil_nil, isNil_iface, wr_wr, Option.isNone_none, Option.isNone_some, plus, Nat.zero_add, Nat.add_zero, rd1 m2 ho2, hu0]
        refine .bind (rqueue_Add_ok k (by omega) ⟨a2, n2, H2, v2, hO2'⟩ hl v) ?_
        rintro ⟨e, m3⟩ ⟨rfl, a4, n4, H4, v4, hO3⟩
        simp only at hO3 ⊢
        have hO3' : Own m3 ((q, .live [.slice a3 n3 n3]) :: (H3 ++ ((r, .live [.slice a4 n4 n4]) :: (H4 ++ [(0, o)])))) := by
          simpa using Own.blk [[(r, .live [.slice a4 n4 n4])], H4, [(q, .live [.slice a3 n3 n3])], H3, [(0, o)]] [2, 3, 0, 1, 4] (by simpa using hO3) (by decide)
        simp (disch := omega) only [Option.bind_some, Option.map_some, cond_true, cond_false, wrap_i64, tmod_pos, tdiv_pos, inRange_yes, inUpto_yes, isZero_no, decide_eq_true, decide_eq_false, Bool.not_true, Bool.not_false, Int.toNat_natCast, Nat.mul_one, beqI_yes, beqI_no, bneI_yes, bneI_no, isNil_nil, isNil_iface, wr_wr, Option.isNone_none, Option.isNone_some, plus, Nat.zero_add, Nat.add_zero, beq_self_eq_true, bne_self_eq_false]
        exact next m3 _ (hl.add v) ⟨a3, n3, H3, a4, n4, H4, v3, v4, hO3'⟩
      by_cases g0 : pickI u 4 = 0
      · simp (disch := omega) only [Option.bind_some, Option.map_some, cond_true, cond_false, wrap_i64, tmod_pos, tdiv_pos, inRange_yes, inUpto_yes, isZero_no, decide_eq_true, decide_eq_false, Bool.not_true, Bool.not_false, Int.toNat_natCast, Nat.mul_one, beqI_yes, beqI_no, bneI_yes, bneI_no, isNil_nil, isNil_iface, wr_wr, Option.isNone_none, Option.isNone_some, plus, Nat.zero_add, Nat.add_zero, show (true : Bool) = true from rfl]
        exact add _ rfl
      · by_cases g1 : pickI u 4 = 1
        · simp (disch := omega) only [Option.bind_some, Option.map_some, cond_true, cond_false, wrap_i64, tmod_pos, tdiv_pos, inRange_yes, inUpto_yes, isZero_no, decide_eq_true, decide_eq_false, Bool.not_true, Bool.not_false, Int.toNat_natCast, Nat.mul_one, beqI_yes, beqI_no, bneI_yes, bneI_no, isNil_nil, isNil_iface, wr_wr, Option.isNone_none, Option.isNone_some, plus, Nat.zero_add, Nat.add_zero]
          exact add _ rfl
        · simp (disch := omega) only [Option.bind_some, Option.map_some, cond_true, cond_false, wrap_i64, tmod_pos, tdiv_pos, inRange_yes, inUpto_yes, isZero_no, decide_eq_true, decide_eq_false, Bool.not_true, Bool.not_false, Int.toNat_natCast, Nat.mul_one, beqI_yes, beqI_no, bneI_yes, bneI_no, isNil_nil, isNil_iface, wr_wr, Option.isNone_none, Option.isNone_some, plus, Nat.zero_add, Nat.add_zero, patinalaw15_PatrolQueues_j2]
          by_cases g2 : pickI u 4 = 2
          · simp (disch := omega) only [Option.bind_some, Option.map_some, cond_true, cond_false, wrap_i64, tmod_pos, tdiv_pos, inRange_yes, inUpto_yes, isZero_no, decide_eq_true, decide_eq_false, Bool.not_true, Bool.not_false, Int.toNat_natCast, Nat.mul_one, beqI_yes, beqI_no, bneI_yes, bneI_no, isNil_nil, isNil_iface, wr_wr, Option.isNone_none, Option.isNone_some, plus, Nat.zero_add, Nat.add_zero]
            refine both_step (mR := fun t => t.2.2) (mS := fun t => t.2.2) (P := fun t => t.1 = l.headD 0 ∧ t.2.1 = !l.isEmpty) (P' := fun t => t.1 = l.headD 0 ∧ t.2.1 = !l.isEmpty) (x := fun m => patrol_Queue_Next k (some ⟨q, 0, none⟩) m) (l' := l.tail) hB ?_ ?_ ?_
            · intro F h
              exact (queue_Next_ok k h hl).mono fun t ⟨e1, e2, e3⟩ => ⟨⟨e1, e2⟩, e3⟩
            · intro t F _ h
              exact (rqueue_Next_ok k h hl).mono fun t ⟨e1, e2, e3⟩ => ⟨⟨e1, e2⟩, e3⟩
            · rintro t s ⟨p1, p2⟩ ⟨p3, p4⟩ hB'
              simp (disch := omega) only [Option.bind_some, Option.map_some, cond_true, cond_false, wrap_i64, tmod_pos, tdiv_pos, inRange_yes, inUpto_yes, isZero_no, decide_eq_true, decide_eq_false, Bool.not_true, Bool.not_false, Int.toNat_natCast, Nat.mul_one, beqI_yes, beqI_no, bneI_yes, bneI_no, isNil_nil, isNil_iface, wr_wr, Option.isNone_none, Option.isNone_some, plus, Nat.zero_add, Nat.add_zero, p1, p2, p3, p4, bne_self_eq_false, beq_self_eq_true]
              exact next _ _ hl.tail hB'
          · simp (disch := omega) only [Option.bind_some, Option.map_some, cond_true, cond_false, wrap_i64, tmod_pos, tdiv_pos, inRange_yes, inUpto_yes, isZero_no, decide_eq_true, decide_eq_false, Bool.not_true, Bool.not_false, Int.toNat_natCast, Nat.mul_one, beqI_yes, beqI_no, bneI_yes, bneI_no, isNil_nil, isNil_iface, wr_wr, Option.isNone_none, Option.isNone_some, plus, Nat.zero_add, Nat.add_zero]
            exact next m l hl hB
    · simp (disch := omega) only [Option.bind_some, Option.map_some, cond_true, cond_false, wrap_i64, tmod_pos, tdiv_pos, inRange_yes, inUpto_yes, isZero_no, decide_eq_true, decide_eq_false, Bool.not_true, Bool.not_false, Int.toNat_natCast, Nat.mul_one, beqI_yes, beqI_no, bneI_yes, bneI_no, isNil_nil, isNil_iface, wr_wr, Option.isNone_none, Option.isNone_some, plus, Nat.zero_add, Nat.add_zero]
      exact .some rfl
  obtain ⟨⟨r, m'⟩, h1, h2⟩ := key
  exact ⟨m', by rw [h1]; simp only at h2; rw [h2]⟩
end Go.Proofs.Yteilkkojcojaiaa
