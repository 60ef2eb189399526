/- The plain law of PoolPlays: the block table and the document's go together. -/
import Derived.Test.YtnilidpafijdlabPool
import Derived.Test.YtnilidpafijdlabFLPoolPlays
set_option linter.unusedVariables false
set_option linter.unusedSimpArgs false
namespace Go.Proofs.Ytnilidpafijdlab
open Go.Mx

theorem pick11_eq (k : Nat) (c n : Int) (m : Mem) (h1 : -9223372036854775808 ≤ c) (h2 : c < 9223372036854775808) (hn : 0 < n) : patinalaw11_pick k c n m = some ((if c < 0 then -(c + 1) else c) % n, m) := by
  unfold patinalaw11_pick patinalaw11_pick_j1
  by_cases h : c < 0
  · simp (disch := omega) only [Option.bind_some, Option.map_some, cond_true, cond_false, wrap_i64, tmod_pos, tdiv_pos, inRange_yes, inUpto_yes, isZero_no, decide_eq_true, decide_eq_false, Bool.not_true, Bool.not_false, Int.toNat_natCast, Nat.mul_one, beqI_yes, beqI_no, bneI_yes, bneI_no, isNil, wr_wr, Option.isNone_none, Option.isNone_some, plus, Nat.zero_add, Nat.add_zero, if_pos h]
    simp only [show 0 - (c + 1) = -(c + 1) by omega]
  · simp (disch := omega) only [Option.bind_some, Option.map_some, cond_true, cond_false, wrap_i64, tmod_pos, tdiv_pos, inRange_yes, inUpto_yes, isZero_no, decide_eq_true, decide_eq_false, Bool.not_true, Bool.not_false, Int.toNat_natCast, Nat.mul_one, beqI_yes, beqI_no, bneI_yes, bneI_no, isNil, wr_wr, Option.isNone_none, Option.isNone_some, plus, Nat.zero_add, Nat.add_zero, if_neg h]
def pickI (c n : Int) : Int := (if c < 0 then -(c + 1) else c) % n
theorem pickI_range (c : Int) {n : Int} (hn : 0 < n) : 0 ≤ pickI c n ∧ pickI c n < n := ⟨Int.emod_nonneg _ (by omega), Int.emod_lt_of_pos _ hn⟩
theorem pick11_ok (k : Nat) (c n : Int) (m : Mem) (h : (Lit.int .i64 c).wf = true) (hn : 0 < n) : patinalaw11_pick k c n m = some (pickI c n, m) := by
  have := wf_i64 h
  exact pick11_eq k c n m this.1 this.2 hn

theorem up11_ok (k : Nat) (o : MObj) : ∃ m, patinalaw11_up (k + 20) [o] = some (true, m) ∧ m.length = 2 ∧ m[0]? = some o := by
  have h : (patinalaw11_up (k + 20) [o]).map (fun r => (r.1, r.2.length, r.2[0]?)) = some (true, 2, some o) := by kernel_rfl
  obtain ⟨⟨b, m⟩, h1, h2⟩ := Option.map_eq_some_iff.1 h
  simp only [Prod.mk.injEq] at h2
  exact ⟨m, by rw [h1, h2.1], h2.2⟩

theorem rpoolNew_is (k : Nat) (m : Mem) : patinaref11_New k m = some (some ⟨m.length, 0, none⟩, m ++ [.live (poolC ⟨fun _ => 0, -1⟩)]) := rfl

section
variable (k : Nat) {m : Mem} {p : Nat} {σ : PoolS} (h : m[p]? = some (.live (poolC σ)))
include h
theorem rpool_Set_is (b v : Int) : patinaref11_Pool_Set k (some ⟨p, 0, none⟩) b v m = some (σ.setCode b v, wr m p (poolC (σ.setTo b v))) := by
  have := wr_same h
  have := pool_ld h
  have := pool_st h
  unfold patinaref11_Pool_Set
  simp only [patinaref11_Pool_Set_j1, Option.bind_some, cond_eq_ite, plus, Nat.mul_one, Nat.zero_add]
  grind [PoolS.setTo, PoolS.setCode, inRange]
theorem rpool_State_is (b : Int) : patinaref11_Pool_State k (some ⟨p, 0, none⟩) b m = some (if 0 ≤ b ∧ b < 12 then (σ.s b, 0, m) else (0, 1, m)) := by
  have := pool_ld h b
  unfold patinaref11_Pool_State
  simp only [Option.bind_some, cond_eq_ite, plus, Nat.mul_one, Nat.zero_add]
  grind [inRange]
theorem rtake_loop (hn : -1 ≤ σ.nx ∧ σ.nx ≤ 11) (kx0 : Int → Int → Mem → Option (Int × Int × Mem)) (kx2 : Mem → Option (Int × Int × Mem)) : ∀ (d n : Nat) (i : Int), i + d = 12 → 0 ≤ i → d < n →
    patinaref11_Pool_Take_l0 k kx0 kx2 n (some ⟨p, 0, none⟩) (i + 1) m = match freeFrom σ.s (σ.nx + 1) i d with
      | some b => kx0 b 0 (wr m p (poolC ⟨upd σ.s b 1, b⟩))
      | none => kx2 m
  | 0, n + 1, i, h1, h2, h3 => by
    unfold patinaref11_Pool_Take_l0 patinaref11_Pool_Take_l0_b freeFrom
    simp (disch := omega) only [Option.bind_some, Option.map_some, cond_true, cond_false, wrap_i64, tmod_pos, tdiv_pos, inRange_yes, inUpto_yes, isZero_no, decide_eq_true, decide_eq_false, Bool.not_true, Bool.not_false, Int.toNat_natCast, Nat.mul_one, beqI_yes, beqI_no, bneI_yes, bneI_no, isNil, wr_wr, Option.isNone_none, Option.isNone_some, plus, Nat.zero_add, Nat.add_zero]
  | d + 1, n + 1, i, h1, h2, h3 => by
    have ih := rtake_loop hn kx0 kx2 d n (i + 1) (by omega) (by omega) (by omega)
    unfold patinaref11_Pool_Take_l0 patinaref11_Pool_Take_l0_b freeFrom
    have e : (σ.nx + (i + 1) + 12) % 12 = (σ.nx + 1 + i) % 12 := by omega
    simp (disch := omega) only [Option.bind_some, Option.map_some, cond_true, cond_false, wrap_i64, tmod_pos, tdiv_pos, inRange_yes, inUpto_yes, isZero_no, decide_eq_true, decide_eq_false, Bool.not_true, Bool.not_false, Int.toNat_natCast, Nat.mul_one, beqI_yes, beqI_no, bneI_yes, bneI_no, isNil, wr_wr, Option.isNone_none, Option.isNone_some, plus, Nat.zero_add, Nat.add_zero, e, pool_ld h, pool_ldnx h, pool_st h, pool_stnx (wr_get h), ih, cond_eq_ite, beq_iff_eq]
    grind
theorem rpool_Take_is (hn : -1 ≤ σ.nx ∧ σ.nx ≤ 11) (hk : 12 < k) : patinaref11_Pool_Take k (some ⟨p, 0, none⟩) m = match freeFrom σ.s (σ.nx + 1) 0 12 with
      | some b => some (b, 0, wr m p (poolC ⟨upd σ.s b 1, b⟩))
      | none => some (0, 10, m) := rtake_loop k h hn _ _ 12 k 0 rfl (by omega) hk
theorem rcount_loop (v : Int) (kx2 : Int → Mem → Option (Int × Mem)) : ∀ (d n i : Nat), i + d = 12 → d < n →
    patinaref11_Pool_Count_l0 k kx2 n (some ⟨p, 0, none⟩) v (countTo σ.s v i) i m = kx2 (countTo σ.s v 12) m
  | 0, n + 1, i, h1, h3 => by
    have : i = 12 := by omega
    subst this
    unfold patinaref11_Pool_Count_l0 patinaref11_Pool_Count_l0_b
    rfl
  | d + 1, n + 1, i, h1, h3 => by
    have ih := rcount_loop v kx2 d n (i + 1) (by omega) (by omega)
    have hc := countTo_le σ.s v i
    have hl := pool_ld h i (by omega) (by omega)
    rw [Int.toNat_natCast] at hl
    unfold patinaref11_Pool_Count_l0 patinaref11_Pool_Count_l0_b
    simp (disch := omega) only [Option.bind_some, Option.map_some, cond_true, cond_false, wrap_i64, tmod_pos, tdiv_pos, inRange_yes, inUpto_yes, isZero_no, decide_eq_true, decide_eq_false, Bool.not_true, Bool.not_false, Int.toNat_natCast, Nat.mul_one, beqI_yes, beqI_no, bneI_yes, bneI_no, isNil, wr_wr, Option.isNone_none, Option.isNone_some, plus, Nat.zero_add, Nat.add_zero, hl, patinaref11_Pool_Count_j1, cond_eq_ite, beq_iff_eq]
    rw [show countTo σ.s v (i + 1) = countTo σ.s v i + if σ.s i = v then 1 else 0 from rfl] at ih
    grind
theorem rpool_Count_is (v : Int) (hk : 12 < k) : patinaref11_Pool_Count k (some ⟨p, 0, none⟩) v m = some (countTo σ.s v 12, m) := rcount_loop k h v _ 12 k 0 rfl hk
theorem rpool_Worn_is (hk : 12 < k) : patinaref11_Pool_Worn k (some ⟨p, 0, none⟩) m = some (decide (countTo σ.s 3 12 > 2), m) := by
  unfold patinaref11_Pool_Worn
  simp (disch := omega) only [Option.bind_some, Option.map_some, cond_true, cond_false, wrap_i64, tmod_pos, tdiv_pos, inRange_yes, inUpto_yes, isZero_no, decide_eq_true, decide_eq_false, Bool.not_true, Bool.not_false, Int.toNat_natCast, Nat.mul_one, beqI_yes, beqI_no, bneI_yes, bneI_no, isNil, wr_wr, Option.isNone_none, Option.isNone_some, plus, Nat.zero_add, Nat.add_zero, rpool_Count_is k h]
theorem rpool_Bound_is (hk : 12 < k) : patinaref11_Pool_Bound k (some ⟨p, 0, none⟩) m = some (σ.bound, m) := by
  have := countTo_le σ.s 3 12
  unfold patinaref11_Pool_Bound PoolS.bound
  simp (disch := omega) only [Option.bind_some, Option.map_some, cond_true, cond_false, wrap_i64, tmod_pos, tdiv_pos, inRange_yes, inUpto_yes, isZero_no, decide_eq_true, decide_eq_false, Bool.not_true, Bool.not_false, Int.toNat_natCast, Nat.mul_one, beqI_yes, beqI_no, bneI_yes, bneI_no, isNil, wr_wr, Option.isNone_none, Option.isNone_some, plus, Nat.zero_add, Nat.add_zero, rpool_Count_is k h, cond_eq_ite, beq_iff_eq]
  grind
theorem rpool_Spare_is (hk : 12 < k) : patinaref11_Pool_Spare k (some ⟨p, 0, none⟩) m = some (decide (countTo σ.s 0 12 > σ.bound), m) := by
  unfold patinaref11_Pool_Spare
  simp (disch := omega) only [Option.bind_some, Option.map_some, cond_true, cond_false, wrap_i64, tmod_pos, tdiv_pos, inRange_yes, inUpto_yes, isZero_no, decide_eq_true, decide_eq_false, Bool.not_true, Bool.not_false, Int.toNat_natCast, Nat.mul_one, beqI_yes, beqI_no, bneI_yes, bneI_no, isNil, wr_wr, Option.isNone_none, Option.isNone_some, plus, Nat.zero_add, Nat.add_zero, rpool_Count_is k h, rpool_Bound_is k h]
theorem pool_Spare_is (hk : 12 < k) : pool_Pool_Spare k (some ⟨p, 0, none⟩) m = some (decide (countTo σ.s 0 12 > σ.bound), m) := by
  unfold pool_Pool_Spare
  simp (disch := omega) only [Option.bind_some, Option.map_some, cond_true, cond_false, wrap_i64, tmod_pos, tdiv_pos, inRange_yes, inUpto_yes, isZero_no, decide_eq_true, decide_eq_false, Bool.not_true, Bool.not_false, Int.toNat_natCast, Nat.mul_one, beqI_yes, beqI_no, bneI_yes, bneI_no, isNil, wr_wr, Option.isNone_none, Option.isNone_some, plus, Nat.zero_add, Nat.add_zero, pool_Count_eq k h, pool_Bound_eq k h]
end

theorem stands_ok (k : Nat) (hk : 100 < k) {m : Mem} {p r : Nat} {σ : PoolS} {F : Heap} (hO : Own m ((p, .live (poolC σ)) :: (r, .live (poolC ⟨σ.s, σ.nx - 1⟩)) :: F)) :
    Ok (patinalaw11_stands k (some ⟨p, 0, none⟩) (some ⟨r, 0, none⟩) m) fun q => q.1 = true ∧ Own q.2 ((p, .live (poolC σ)) :: (r, .live (poolC ⟨σ.s, σ.nx - 1⟩)) :: F) := by
  unfold patinalaw11_stands
  obtain ⟨sp, e1⟩ := pool_States_is k (hO.at 0 rfl)
  have hO2 := hO.new2 (.live []) (.live (arr .i64 12 σ.s))
  simp (disch := omega) only [Option.bind_some, Option.map_some, cond_true, cond_false, wrap_i64, tmod_pos, tdiv_pos, inRange_yes, inUpto_yes, isZero_no, decide_eq_true, decide_eq_false, Bool.not_true, Bool.not_false, Int.toNat_natCast, Nat.mul_one, beqI_yes, beqI_no, bneI_yes, bneI_no, isNil, wr_wr, Option.isNone_none, Option.isNone_some, plus, Nat.zero_add, Nat.add_zero, e1]
  refine patinalaw11_stands_l0_rule k _ _ (fun d x1 x5a x5n x5c x6 m' => some ⟨r, 0, none⟩ = x1 ∧ some ⟨m.length + 1, 0, sp⟩ = x5a ∧ 12 = x5n ∧ 12 = x5c ∧ 0 ≤ x6 ∧ x6 + d = 12 ∧
    ∃ f, Own m' ((m.length + 1, .live (arr .i64 12 f)) :: (m.length, .live []) :: (p, .live (poolC σ)) :: (r, .live (poolC ⟨σ.s, σ.nx - 1⟩)) :: F) ∧ ∀ b, x6 ≤ b → f b = σ.s b) ?_ k 12 _ _ _ _ 0 _ (by omega) ⟨rfl, rfl, rfl, rfl, by omega, by omega, _, hO2, fun _ _ => rfl⟩
  rintro d nx _ _ _ _ i m' ⟨rfl, rfl, rfl, rfl, hi, hd, f, hO3, hf⟩ hnx
  unfold patinalaw11_stands_l0_b
  by_cases h1 : i < 12
  · have := hf i (by omega)
    have hl := pool_ld (hO3.at 3 rfl) i hi h1
    simp only at hl
    simp (disch := omega) only [Option.bind_some, Option.map_some, cond_true, cond_false, wrap_i64, tmod_pos, tdiv_pos, inRange_yes, inUpto_yes, isZero_no, decide_eq_true, decide_eq_false, Bool.not_true, Bool.not_false, Int.toNat_natCast, Nat.mul_one, beqI_yes, beqI_no, bneI_yes, bneI_no, isNil, wr_wr, Option.isNone_none, Option.isNone_some, plus, Nat.zero_add, Nat.add_zero, arr_ld (hO3.at 0 rfl), hl, arr_st (hO3.at 0 rfl)]
    exact hnx (d - 1) _ _ _ _ _ _ (by omega) ⟨rfl, rfl, rfl, rfl, by omega, by omega, _, hO3.wr 0 rfl _, fun b hb => by rw [upd_ne (by omega)]; exact hf b (by omega)⟩
  · simp (disch := omega) only [Option.bind_some, Option.map_some, cond_true, cond_false, wrap_i64, tmod_pos, tdiv_pos, inRange_yes, inUpto_yes, isZero_no, decide_eq_true, decide_eq_false, Bool.not_true, Bool.not_false, Int.toNat_natCast, Nat.mul_one, beqI_yes, beqI_no, bneI_yes, bneI_no, isNil, wr_wr, Option.isNone_none, Option.isNone_some, plus, Nat.zero_add, Nat.add_zero]
    exact .some ⟨rfl, hO3.tail.tail⟩

theorem wf_setTo {σ : PoolS} (h : σ.Wf) (b v : Int) : (σ.setTo b v).Wf := by
  refine ⟨by unfold PoolS.setTo; grind [h.nx], fun c h1 h2 => ?_⟩
  have := h.s c h1 h2
  unfold PoolS.setTo PoolS.setCode upd; grind

theorem step_ok (k : Nat) (hk : 100 < k) {m : Mem} {p r : Nat} {σ : PoolS} {F : Heap} (hO : Own m ((p, .live (poolC σ)) :: (r, .live (poolC ⟨σ.s, σ.nx - 1⟩)) :: F)) (hσ : σ.Wf) {u v w : Int}
    (w1 : (Lit.int .i64 u).wf = true) (w2 : (Lit.int .i64 v).wf = true) (w3 : (Lit.int .i64 w).wf = true) :
    Ok (patinalaw11_step k (some ⟨p, 0, none⟩) (some ⟨r, 0, none⟩) [.int .i64 u, .int .i64 v, .int .i64 w] m) fun q => q.1 = true ∧ ∃ τ : PoolS, τ.Wf ∧ Own q.2 ((p, .live (poolC τ)) :: (r, .live (poolC ⟨τ.s, τ.nx - 1⟩)) :: F) := by
  unfold patinalaw11_step
  have hO1 := hO.new (.live [.int .i64 u, .int .i64 v, .int .i64 w])
  have l0 := hO1.ldInt (sp := none) 0 rfl (off := 0) (k := .i64) (z := u) rfl
  have l1 := hO1.ldInt (sp := none) 0 rfl (off := 1) (k := .i64) (z := v) rfl
  have l2 := hO1.ldInt (sp := none) 0 rfl (off := 2) (k := .i64) (z := w) rfl
  obtain ⟨a1, a2⟩ := pickI_range u (n := 6) (by omega)
  have hp := hO1.at 1 rfl
  have hr := hO1.at 2 rfl
  have hnx := hσ.nx
  simp (disch := omega) only [Option.bind_some, Option.map_some, cond_true, cond_false, wrap_i64, tmod_pos, tdiv_pos, inRange_yes, inUpto_yes, isZero_no, decide_eq_true, decide_eq_false, Bool.not_true, Bool.not_false, Int.toNat_natCast, Nat.mul_one, beqI_yes, beqI_no, bneI_yes, bneI_no, isNil, wr_wr, Option.isNone_none, Option.isNone_some, plus, Nat.zero_add, Nat.add_zero, l0, pick11_ok k u 6 _ w1 (by omega), show Nat.beq (List.length [Value.int .i64 u, Value.int .i64 v, Value.int .i64 w]) 3 = true from rfl, l1, l2]
  generalize hm : m ++ [MObj.live [.int .i64 u, .int .i64 v, .int .i64 w]] = m1 at *
  generalize pickI u 6 = t at *
  by_cases g0 : t = 0
  · have hO2 := hO1.wr 1 rfl (poolC (σ.setTo v w))
    have k1 := hO2.ldInt (sp := none) 0 rfl (off := 1) (k := .i64) (z := v) rfl
    have k2 := hO2.ldInt (sp := none) 0 rfl (off := 2) (k := .i64) (z := w) rfl
    have hO3 := hO2.wr 2 rfl (poolC ((PoolS.mk σ.s (σ.nx - 1)).setTo v w))
    have hc : 0 ≤ σ.setCode v w ∧ σ.setCode v w < 20 := by unfold PoolS.setCode; grind
    have e : (PoolS.mk σ.s (σ.nx - 1)).setCode v w = σ.setCode v w := rfl
    simp (disch := omega) only [Option.bind_some, Option.map_some, cond_true, cond_false, wrap_i64, tmod_pos, tdiv_pos, inRange_yes, inUpto_yes, isZero_no, decide_eq_true, decide_eq_false, Bool.not_true, Bool.not_false, Int.toNat_natCast, Nat.mul_one, beqI_yes, beqI_no, bneI_yes, bneI_no, isNil, wr_wr, Option.isNone_none, Option.isNone_some, plus, Nat.zero_add, Nat.add_zero, pool_Set_eq k hp v w, code_is k _ _ hc, k1, k2, rpool_Set_is k (hO2.at 2 rfl) v w, e]
    refine .some ⟨rfl, σ.setTo v w, wf_setTo hσ v w, ?_⟩
    have e2 : (PoolS.mk σ.s (σ.nx - 1)).setTo v w = ⟨(σ.setTo v w).s, (σ.setTo v w).nx - 1⟩ := by
      unfold PoolS.setTo; rw [e]; split <;> rfl
    rw [e2] at hO3 ⊢
    exact hO3.tail
  · by_cases g1 : t = 1
    · simp (disch := omega) only [Option.bind_some, Option.map_some, cond_true, cond_false, wrap_i64, tmod_pos, tdiv_pos, inRange_yes, inUpto_yes, isZero_no, decide_eq_true, decide_eq_false, Bool.not_true, Bool.not_false, Int.toNat_natCast, Nat.mul_one, beqI_yes, beqI_no, bneI_yes, bneI_no, isNil, wr_wr, Option.isNone_none, Option.isNone_some, plus, Nat.zero_add, Nat.add_zero, pool_Take_eq k hp hnx]
      have e3 : (PoolS.mk σ.s (σ.nx - 1)).nx + 1 = σ.nx := by simp only; omega
      cases hf : freeFrom σ.s σ.nx 0 12 with
      | none =>
        have hr' := rpool_Take_is k hr (by simp only; omega) (by omega)
        rw [e3] at hr'
        simp only [hf] at hr'
        have c10 := code_is k 10 m1 (by omega)
        rw [errC_pos (by omega)] at c10
        simp (disch := omega) only [Option.bind_some, Option.map_some, cond_true, cond_false, wrap_i64, tmod_pos, tdiv_pos, inRange_yes, inUpto_yes, isZero_no, decide_eq_true, decide_eq_false, Bool.not_true, Bool.not_false, Int.toNat_natCast, Nat.mul_one, beqI_yes, beqI_no, bneI_yes, bneI_no, isNil, wr_wr, Option.isNone_none, Option.isNone_some, plus, Nat.zero_add, Nat.add_zero, hr', c10]
        exact .some ⟨rfl, σ, hσ, hO1.tail⟩
      | some b =>
        obtain ⟨f1, f2, f3⟩ := freeFrom_zero hnx 12 0 (by omega) hf
        have hO2 := hO1.wr 1 rfl (poolC ⟨upd σ.s b 1, b + 1⟩)
        have hr' := rpool_Take_is k (hO2.at 2 rfl) (by simp only; omega) (by omega)
        rw [e3] at hr'
        simp only [hf] at hr'
        have c0 := fun m => code_is k 0 m (by omega)
        rw [errC_zero] at c0
        simp (disch := omega) only [Option.bind_some, Option.map_some, cond_true, cond_false, wrap_i64, tmod_pos, tdiv_pos, inRange_yes, inUpto_yes, isZero_no, decide_eq_true, decide_eq_false, Bool.not_true, Bool.not_false, Int.toNat_natCast, Nat.mul_one, beqI_yes, beqI_no, bneI_yes, bneI_no, isNil, wr_wr, Option.isNone_none, Option.isNone_some, plus, Nat.zero_add, Nat.add_zero, hr', c0]
        refine .some ⟨rfl, ⟨upd σ.s b 1, b + 1⟩, ⟨by simp only; omega, fun c h1 h2 => ?_⟩, ?_⟩
        · have := hσ.s c h1 h2
          simp only [upd]; grind
        · have hO3 := hO2.wr 2 rfl (poolC ⟨upd σ.s b 1, b⟩)
          simp only [Int.add_sub_cancel]
          exact hO3.tail
    · by_cases g2 : t = 2
      · by_cases hv : 0 ≤ v ∧ v < 12
        · have c0 := fun m => code_is k 0 m (by omega)
          rw [errC_zero] at c0
          simp (disch := omega) only [Option.bind_some, Option.map_some, cond_true, cond_false, wrap_i64, tmod_pos, tdiv_pos, inRange_yes, inUpto_yes, isZero_no, decide_eq_true, decide_eq_false, Bool.not_true, Bool.not_false, Int.toNat_natCast, Nat.mul_one, beqI_yes, beqI_no, bneI_yes, bneI_no, isNil, wr_wr, Option.isNone_none, Option.isNone_some, plus, Nat.zero_add, Nat.add_zero, pool_State_is k hp v, rpool_State_is k hr v, if_pos hv, l1, c0]
          exact .some ⟨rfl, σ, hσ, hO1.tail⟩
        · have c1 := code_is k 1 m1 (by omega)
          simp (disch := omega) only [Option.bind_some, Option.map_some, cond_true, cond_false, wrap_i64, tmod_pos, tdiv_pos, inRange_yes, inUpto_yes, isZero_no, decide_eq_true, decide_eq_false, Bool.not_true, Bool.not_false, Int.toNat_natCast, Nat.mul_one, beqI_yes, beqI_no, bneI_yes, bneI_no, isNil, wr_wr, Option.isNone_none, Option.isNone_some, plus, Nat.zero_add, Nat.add_zero, pool_State_is k hp v, rpool_State_is k hr v, if_neg hv, l1, c1]
          exact .some ⟨rfl, σ, hσ, hO1.tail⟩
      · by_cases g3 : t = 3
        · simp (disch := omega) only [Option.bind_some, Option.map_some, cond_true, cond_false, wrap_i64, tmod_pos, tdiv_pos, inRange_yes, inUpto_yes, isZero_no, decide_eq_true, decide_eq_false, Bool.not_true, Bool.not_false, Int.toNat_natCast, Nat.mul_one, beqI_yes, beqI_no, bneI_yes, bneI_no, isNil, wr_wr, Option.isNone_none, Option.isNone_some, plus, Nat.zero_add, Nat.add_zero, pool_Count_eq k hp, rpool_Count_is k hr, l2]
          exact .some ⟨rfl, σ, hσ, hO1.tail⟩
        · by_cases g4 : t = 4
          · simp (disch := omega) only [Option.bind_some, Option.map_some, cond_true, cond_false, wrap_i64, tmod_pos, tdiv_pos, inRange_yes, inUpto_yes, isZero_no, decide_eq_true, decide_eq_false, Bool.not_true, Bool.not_false, Int.toNat_natCast, Nat.mul_one, beqI_yes, beqI_no, bneI_yes, bneI_no, isNil, wr_wr, Option.isNone_none, Option.isNone_some, plus, Nat.zero_add, Nat.add_zero]
            refine .bind (stands_ok k hk hO1.tail) fun r hr => .some ⟨hr.1, σ, hσ, hr.2⟩
          · have hb := rpool_Bound_is k hr (by omega)
            rw [show (PoolS.mk σ.s (σ.nx - 1)).bound = σ.bound from rfl] at hb
            have hs := rpool_Spare_is k hr (by omega)
            rw [show (PoolS.mk σ.s (σ.nx - 1)).bound = σ.bound from rfl] at hs
            simp (disch := omega) only [Option.bind_some, Option.map_some, cond_true, cond_false, wrap_i64, tmod_pos, tdiv_pos, inRange_yes, inUpto_yes, isZero_no, decide_eq_true, decide_eq_false, Bool.not_true, Bool.not_false, Int.toNat_natCast, Nat.mul_one, beqI_yes, beqI_no, bneI_yes, bneI_no, isNil, wr_wr, Option.isNone_none, Option.isNone_some, plus, Nat.zero_add, Nat.add_zero, pool_Bound_eq k hp, hb, pool_Spare_is k hp, hs, pool_Worn_eq k hp, rpool_Worn_is k hr, beq_self_eq_true]
            exact .some ⟨rfl, σ, hσ, hO1.tail⟩

theorem poolPlays_run (o : MObj) (q : Option Addr) (N c' : Nat) (cs : List Value) (hh : Holds o 0 q N [.int .i64, .int .i64, .int .i64] cs) (hc : N ≤ c') (hN : N * 24 ≤ 140737488351232) :
    ∃ k m', patinalaw11_PoolPlays k q N c' [o] = some (true, m') := by
  obtain ⟨m1, e1, e2, e3⟩ := up11_ok (N + 1000) o
  have hk : 100 + N < N + 1000 + 20 := by omega
  generalize N + 1000 + 20 = k at e1 hk
  refine ⟨k, ?_⟩
  have key : Ok (patinalaw11_PoolPlays k q N c' [o]) fun r => r.1 = true := by
    unfold patinalaw11_PoolPlays
    have hO0 : Own m1 [(0, o)] := ⟨by simp, by simp [e3]⟩
    simp (disch := omega) only [Option.bind_some, Option.map_some, cond_true, cond_false, wrap_i64, tmod_pos, tdiv_pos, inRange_yes, inUpto_yes, isZero_no, decide_eq_true, decide_eq_false, Bool.not_true, Bool.not_false, Int.toNat_natCast, Nat.mul_one, beqI_yes, beqI_no, bneI_yes, bneI_no, isNil, wr_wr, Option.isNone_none, Option.isNone_some, plus, Nat.zero_add, Nat.add_zero, e1, poolNew_is, rpoolNew_is, e2, List.append_assoc, List.length_append, List.length_cons, List.length_nil, List.singleton_append]
    have hO1 := hO0.new2 (.live (poolC ⟨fun _ => 0, 0⟩)) (.live (poolC ⟨fun _ => 0, -1⟩))
    rw [e2] at hO1
    refine patinalaw11_PoolPlays_l0_rule k _ _ (fun d x0a x0n x0c x4 x5 x6 m => q = x0a ∧ N = x0n ∧ c' = x0c ∧ some ⟨2, 0, none⟩ = x4 ∧ some ⟨3, 0, none⟩ = x5 ∧ 0 ≤ x6 ∧ x6 + d = N ∧ ∃ σ : PoolS, Own m [(2, .live (poolC σ)), (3, .live (poolC ⟨σ.s, σ.nx - 1⟩)), (0, o)] ∧ σ.Wf)
      ?_ k N _ _ _ _ _ 0 _ (by omega) ⟨rfl, rfl, rfl, rfl, rfl, by omega, by omega, ⟨fun _ => 0, 0⟩, by simpa [pickL] using hO1.pick [1, 0, 2] 3 (by decide), ⟨by simp, by simp⟩⟩
    rintro d nx _ _ _ _ _ i m ⟨rfl, rfl, rfl, rfl, rfl, hi, hd, σ, hO, hσ⟩ hnx
    unfold patinalaw11_PoolPlays_l0_b
    by_cases h1 : i < N
    · have hp := hh.ptr (j := i.toNat) (by omega)
      subst hp
      obtain ⟨u, v, w, l, w1, w2, w3⟩ := hh.ld3 (hO.at 2 rfl) hi h1
      simp (disch := omega) only [Option.bind_some, Option.map_some, cond_true, cond_false, wrap_i64, tmod_pos, tdiv_pos, inRange_yes, inUpto_yes, isZero_no, decide_eq_true, decide_eq_false, Bool.not_true, Bool.not_false, Int.toNat_natCast, Nat.mul_one, beqI_yes, beqI_no, bneI_yes, bneI_no, isNil, wr_wr, Option.isNone_none, Option.isNone_some, plus, Nat.zero_add, Nat.add_zero, l]
      refine .bind (step_ok k (by omega) hO hσ w1 w2 w3) ?_
      rintro ⟨r, m'⟩ ⟨rfl, τ, hτ, hO'⟩
      simp (disch := omega) only [Option.bind_some, Option.map_some, cond_true, cond_false, wrap_i64, tmod_pos, tdiv_pos, inRange_yes, inUpto_yes, isZero_no, decide_eq_true, decide_eq_false, Bool.not_true, Bool.not_false, Int.toNat_natCast, Nat.mul_one, beqI_yes, beqI_no, bneI_yes, bneI_no, isNil, wr_wr, Option.isNone_none, Option.isNone_some, plus, Nat.zero_add, Nat.add_zero]
      exact hnx (d - 1) _ _ _ _ _ _ _ (by omega) ⟨rfl, rfl, rfl, rfl, rfl, by omega, by omega, τ, hO', hτ⟩
    · simp (disch := omega) only [Option.bind_some, Option.map_some, cond_true, cond_false, wrap_i64, tmod_pos, tdiv_pos, inRange_yes, inUpto_yes, isZero_no, decide_eq_true, decide_eq_false, Bool.not_true, Bool.not_false, Int.toNat_natCast, Nat.mul_one, beqI_yes, beqI_no, bneI_yes, bneI_no, isNil, wr_wr, Option.isNone_none, Option.isNone_some, plus, Nat.zero_add, Nat.add_zero]
      exact .bind (stands_ok k (by omega) hO) fun r hr => .some hr.1
  obtain ⟨⟨r, m'⟩, h1, h2⟩ := key
  exact ⟨m', by rw [h1]; simp only at h2; rw [h2]⟩
end Go.Proofs.Ytnilidpafijdlab
