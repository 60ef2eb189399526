/- The plain law of PoolRound: blocks are taken in turn. -/
import Derived.Test.YtnilidpafijdlaaPool
import Derived.Test.YtnilidpafijdlaaFLPoolRound
set_option linter.unusedVariables false
set_option linter.unusedSimpArgs false
namespace Go.Proofs.Ytnilidpafijdlaa
open Go.Mx

theorem pick11_eq (k : Nat) (c n : Int) (m : Mem) (h1 : -9223372036854775808 ≤ c) (h2 : c < 9223372036854775808) (hn : 0 < n) : patinalaw11_pick k c n m = some ((if c < 0 then -(c + 1) else c) % n, m) := by
  unfold patinalaw11_pick patinalaw11_pick_j1
  by_cases h : c < 0
  · simp (disch := omega) only [Option.bind_some, Option.map_some, cond_true, cond_false, wrap_i64, tmod_pos, tdiv_pos, inRange_yes, inUpto_yes, isZero_no, decide_eq_true, decide_eq_false, Bool.not_true, Bool.not_false, Int.toNat_natCast, Nat.mul_one, beqI_yes, beqI_no, bneI_yes, bneI_no, isNil, wr_wr, Option.isNone_none, Option.isNone_some, plus, Nat.zero_add, Nat.add_zero, if_pos h]
    simp only [show 0 - (c + 1) = -(c + 1) by omega]
  · simp (disch := omega) only [Option.bind_some, Option.map_some, cond_true, cond_false, wrap_i64, tmod_pos, tdiv_pos, inRange_yes, inUpto_yes, isZero_no, decide_eq_true, decide_eq_false, Bool.not_true, Bool.not_false, Int.toNat_natCast, Nat.mul_one, beqI_yes, beqI_no, bneI_yes, bneI_no, isNil, wr_wr, Option.isNone_none, Option.isNone_some, plus, Nat.zero_add, Nat.add_zero, if_neg h]
def pickI (c n : Int) : Int := (if c < 0 then -(c + 1) else c) % n
theorem pickI_range (c : Int) {n : Int} (hn : 0 < n) : 0 ≤ pickI c n ∧ pickI c n < n := ⟨Int.emod_nonneg _ (by omega), Int.emod_lt_of_pos _ hn⟩
theorem pick11_ok (k : Nat) (c n : Int) (m : Mem) (h : (Lit.int .i64 c).wf = true) (hn : 0 < n) : patinalaw11_pick k c n m = some (pickI c n, m) := by
  have := wf_i64 h
  exact pick11_eq k c n m this.1 this.2 hn

theorem up11_ok (k : Nat) (o : MObj) : ∃ m, patinalaw11_up (k + 20) [o] = some (true, m) ∧ m.length = 2 ∧ m[0]? = some o := by
  have h : (patinalaw11_up (k + 20) [o]).map (fun r => (r.1, r.2.length, r.2[0]?)) = some (true, 2, some o) := by kernel_rfl
  obtain ⟨⟨b, m⟩, h1, h2⟩ := Option.map_eq_some_iff.1 h
  simp only [Prod.mk.injEq] at h2
  exact ⟨m, by rw [h1, h2.1], h2.2⟩

/-- how many are marked -/
def marks (u : Int → Bool) : Nat → Nat
  | 0 => 0
  | n + 1 => marks u n + if u n then 1 else 0
theorem marks_upd (u : Int → Bool) (b : Int) (n : Nat) : marks (upd u b true) n ≤ marks u n + 1 ∧ (b ≥ n → marks (upd u b true) n = marks u n) := by
  induction n with
  | zero => simp [marks]
  | succ n ih => rw [show ∀ u, marks u (n + 1) = marks u n + if u n then 1 else 0 from fun _ => rfl, show ∀ u, marks u (n + 1) = marks u n + if u n then 1 else 0 from fun _ => rfl]; unfold upd at *; grind
theorem marks_all (u : Int → Bool) (n : Nat) (h : ∀ b : Int, 0 ≤ b → b < n → u b = true) : marks u n = n := by
  induction n with
  | zero => rfl
  | succ n ih => unfold marks; rw [ih (fun b h1 h2 => h b h1 (by omega)), h n (by omega) (by omega)]; simp
theorem marks_none (n : Nat) : marks (fun _ => false) n = 0 := by
  induction n with
  | zero => rfl
  | succ n ih => unfold marks; simp [ih]

/-- how far ahead -/
def ahead (nx b : Int) : Int := (b - nx) % 12
theorem freeFrom_some {s : Int → Int} {nx b : Int} (hn : 0 ≤ nx ∧ nx ≤ 12) : ∀ (d : Nat) (i : Int), i + d = 12 → 0 ≤ i → (∀ b, 0 ≤ b → b < 12 → ahead nx b < i → s b ≠ 0) → freeFrom s nx i d = some b →
    0 ≤ b ∧ b < 12 ∧ s b = 0 ∧ ∀ c, 0 ≤ c → c < 12 → s c = 0 → c ≠ b → ahead nx b < ahead nx c
  | 0, i, h1, h2, hb, h => by simp [freeFrom] at h
  | d + 1, i, h1, h2, hb, h => by
    unfold freeFrom at h
    split at h
    · rename_i h3
      simp only [Option.some.injEq] at h; subst h
      refine ⟨by omega, by omega, h3, fun c a1 a2 a3 a4 => ?_⟩
      have := hb c a1 a2
      unfold ahead at *
      have : ¬ (c - nx) % 12 < i := fun h5 => this h5 a3
      omega
    · rename_i h3
      refine freeFrom_some hn d (i + 1) (by omega) (by omega) (fun c a1 a2 a3 a4 => ?_) h
      by_cases h5 : ahead nx c < i
      · exact hb c a1 a2 h5 a4
      · unfold ahead at *
        have : c = (nx + i) % 12 := by omega
        rw [this] at a4; exact h3 a4
theorem freeFrom_none {s : Int → Int} {nx : Int} (hn : 0 ≤ nx ∧ nx ≤ 12) : ∀ (d : Nat) (i : Int), i + d = 12 → 0 ≤ i → (∀ b, 0 ≤ b → b < 12 → ahead nx b < i → s b ≠ 0) → freeFrom s nx i d = none →
    ∀ c, 0 ≤ c → c < 12 → s c ≠ 0
  | 0, i, h1, h2, hb, h => fun c a1 a2 => hb c a1 a2 (by unfold ahead; omega)
  | d + 1, i, h1, h2, hb, h => by
    unfold freeFrom at h
    split at h
    · cases h
    · rename_i h3
      refine freeFrom_none hn d (i + 1) (by omega) (by omega) (fun c a1 a2 a3 a4 => ?_) h
      by_cases h5 : ahead nx c < i
      · exact hb c a1 a2 h5 a4
      · unfold ahead at *
        have : c = (nx + i) % 12 := by omega
        rw [this] at a4; exact h3 a4

/-- states and marks agree -/
def Agree (σ : PoolS) (u : Int → Bool) : Prop := (0 ≤ σ.nx ∧ σ.nx ≤ 12) ∧ ∀ b, 0 ≤ b → b < 12 → σ.s b = if u b then 2 else 0

theorem keep_ok (k : Nat) (hk : 100 < k) (kx2 : Int → Option Addr → Addr → Mem → Option (Bool × Mem)) {P : Bool × Mem → Prop} {o : MObj} {a : Option Addr} {N c' : Nat} {cs : List Value} {t : Int} (hh : Holds o 0 a N [.int .i64] cs) (hN : N * 8 ≤ 140737488351232)
    (hx : ∀ m σ u, Own m [(0, o), (2, .live (poolC σ)), (3, .live (barr 12 u))] → Agree σ u → marks u 12 ≤ 9 → Ok (kx2 t (some ⟨2, 0, none⟩) ⟨3, 0, none⟩ m) P)
    (m : Mem) (h0 : Own m [(0, o), (2, .live (poolC ⟨fun _ => 0, 0⟩)), (3, .live (barr 12 fun _ => false))]) :
    Ok (patinalaw11_PoolRound_l0 k kx2 k a N c' t (some ⟨2, 0, none⟩) ⟨3, 0, none⟩ 0 m) P := by
  refine patinalaw11_PoolRound_l0_rule k kx2 (fun d x0a x0n x0c x1 x6 x7 x8 m => a = x0a ∧ N = x0n ∧ c' = x0c ∧ t = x1 ∧ some ⟨2, 0, none⟩ = x6 ∧ ⟨3, 0, none⟩ = x7 ∧ 0 ≤ x8 ∧ x8 + d = 9 ∧
    ∃ σ u, Own m [(0, o), (2, .live (poolC σ)), (3, .live (barr 12 u))] ∧ Agree σ u ∧ marks u 12 ≤ x8) ?_ k 9 a N c' t _ _ 0 m (by omega) ⟨rfl, rfl, rfl, rfl, rfl, rfl, by omega, by omega, _, _, h0, ⟨by simp, by simp⟩, by simp [marks_none]⟩
  rintro d nx _ _ _ _ _ _ i m ⟨rfl, rfl, rfl, rfl, rfl, rfl, hi, hd, σ, u, hO, hA, hM⟩ hnx
  unfold patinalaw11_PoolRound_l0_b
  by_cases h1 : i < (N : Int)
  · by_cases h2 : i < 9
    · have hp := hh.ptr (j := i.toNat) (by omega)
      subst hp
      have e1 := hh.ldIntI (hO.at 0 rfl) hi h1
      have hw := hh.wfI hi h1
      obtain ⟨r1, r2⟩ := pickI_range (intAt (cs.getD i.toNat undef)) (n := 12) (by omega)
      simp (disch := omega) only [Option.bind_some, Option.map_some, cond_true, cond_false, wrap_i64, tmod_pos, tdiv_pos, inRange_yes, inUpto_yes, isZero_no, decide_eq_true, decide_eq_false, Bool.not_true, Bool.not_false, Int.toNat_natCast, Nat.mul_one, beqI_yes, beqI_no, bneI_yes, bneI_no, isNil, wr_wr, Option.isNone_none, Option.isNone_some, plus, Nat.zero_add, Nat.add_zero, e1, pick11_ok k _ 12 m hw (by omega), barr_st (hO.at 2 rfl)]
      generalize pickI (intAt (cs.getD i.toNat undef)) 12 = b at r1 r2
      have hO2 := hO.wr 2 rfl (barr 12 (upd u b true))
      have hs := hA.2 b r1 r2
      simp (disch := omega) only [Option.bind_some, Option.map_some, cond_true, cond_false, wrap_i64, tmod_pos, tdiv_pos, inRange_yes, inUpto_yes, isZero_no, decide_eq_true, decide_eq_false, Bool.not_true, Bool.not_false, Int.toNat_natCast, Nat.mul_one, beqI_yes, beqI_no, bneI_yes, bneI_no, isNil, wr_wr, Option.isNone_none, Option.isNone_some, plus, Nat.zero_add, Nat.add_zero, pool_Set_eq k (hO2.at 1 rfl) b 2]
      refine hnx (d - 1) _ _ _ _ _ _ _ _ (by omega) ⟨rfl, rfl, rfl, rfl, rfl, rfl, by omega, by omega, _, _, hO2.wr 1 rfl _, ?_, ?_⟩
      · have hc : σ.setCode b 2 = 0 := by unfold PoolS.setCode; grind
        unfold PoolS.setTo Agree at *
        rw [if_pos hc]
        refine ⟨hA.1, fun c c1 c2 => ?_⟩
        have := hA.2 c c1 c2
        unfold upd
        grind
      · have := (marks_upd u b 12).1
        omega
    · simp (disch := omega) only [Option.bind_some, Option.map_some, cond_true, cond_false, wrap_i64, tmod_pos, tdiv_pos, inRange_yes, inUpto_yes, isZero_no, decide_eq_true, decide_eq_false, Bool.not_true, Bool.not_false, Int.toNat_natCast, Nat.mul_one, beqI_yes, beqI_no, bneI_yes, bneI_no, isNil, wr_wr, Option.isNone_none, Option.isNone_some, plus, Nat.zero_add, Nat.add_zero]
      exact hx m σ u hO hA (by omega)
  · simp (disch := omega) only [Option.bind_some, Option.map_some, cond_true, cond_false, wrap_i64, tmod_pos, tdiv_pos, inRange_yes, inUpto_yes, isZero_no, decide_eq_true, decide_eq_false, Bool.not_true, Bool.not_false, Int.toNat_natCast, Nat.mul_one, beqI_yes, beqI_no, bneI_yes, bneI_no, isNil, wr_wr, Option.isNone_none, Option.isNone_some, plus, Nat.zero_add, Nat.add_zero]
    exact hx m σ u hO hA (by omega)

/-- what is known between two Takes -/
structure Turn (σ : PoolS) (u : Int → Bool) (f : Int → Int) (i : Int) : Prop where
  agree : Agree σ u
  marks : marks u 12 ≤ 9
  old : ∀ b, 0 ≤ b → b < 12 → 0 ≤ f b ∧ f b < i
  order : ∀ b c, 0 ≤ b → b < 12 → 0 ≤ c → c < 12 → u b = false → u c = false → ahead σ.nx b < ahead σ.nx c → f b < f c ∨ (f b = 0 ∧ f c = 0)

theorem look_ok (k : Nat) (hk : 100 < k) (kx0 : Bool → Mem → Option (Bool × Mem)) (kx6 : Option Addr → Addr → Addr → Int → Int → Int → Mem → Option (Bool × Mem)) {P : Bool × Mem → Prop} {q : Nat} {m : Mem} {F : Heap} {u : Int → Bool} {f : Int → Int} {n i b : Int}
    (h : Own m ((3, .live (barr 12 u)) :: (q, .live (arr .i64 12 f)) :: F)) (hb : 0 ≤ b ∧ b < 12) (hf : ∀ c, 0 ≤ c → c < 12 → u c = false → c ≠ b → f b < f c) (hx : Ok (kx6 (some ⟨2, 0, none⟩) ⟨3, 0, none⟩ ⟨q, 0, none⟩ n i b m) P) :
    Ok (patinalaw11_PoolRound_l4 k kx0 kx6 k (some ⟨2, 0, none⟩) ⟨3, 0, none⟩ ⟨q, 0, none⟩ n i b 0 m) P := by
  refine patinalaw11_PoolRound_l4_rule k kx0 kx6 (fun d x6 x7 x10 x11 x12 x13 x15 m' => some ⟨2, 0, none⟩ = x6 ∧ ⟨3, 0, none⟩ = x7 ∧ ⟨q, 0, none⟩ = x10 ∧ n = x11 ∧ i = x12 ∧ b = x13 ∧ 0 ≤ x15 ∧ x15 + d = 12 ∧ m = m') ?_ k 12 _ _ _ _ _ _ 0 m (by omega) ⟨rfl, rfl, rfl, rfl, rfl, rfl, by omega, by omega, rfl⟩
  rintro d nx _ _ _ _ _ _ c _ ⟨rfl, rfl, rfl, rfl, rfl, rfl, hc, hd, rfl⟩ hnx
  unfold patinalaw11_PoolRound_l4_b
  by_cases h1 : c < 12
  · have hn := hnx (d - 1) (some ⟨2, 0, none⟩) ⟨3, 0, none⟩ ⟨q, 0, none⟩ n i b (c + 1) m (by omega) ⟨rfl, rfl, rfl, rfl, rfl, rfl, by omega, by omega, rfl⟩
    have := hf c hc h1
    simp (disch := omega) only [Option.bind_some, Option.map_some, cond_true, cond_false, wrap_i64, tmod_pos, tdiv_pos, inRange_yes, inUpto_yes, isZero_no, decide_eq_true, decide_eq_false, Bool.not_true, Bool.not_false, Int.toNat_natCast, Nat.mul_one, beqI_yes, beqI_no, bneI_yes, bneI_no, isNil, wr_wr, Option.isNone_none, Option.isNone_some, plus, Nat.zero_add, Nat.add_zero, barr_ld (h.at 0 rfl), arr_ld (h.at 1 rfl), patinalaw11_PoolRound_j2]
    by_cases h2 : u c = false
    · by_cases h3 : c = b
      · simp (disch := omega) only [Option.bind_some, Option.map_some, cond_true, cond_false, wrap_i64, tmod_pos, tdiv_pos, inRange_yes, inUpto_yes, isZero_no, decide_eq_true, decide_eq_false, Bool.not_true, Bool.not_false, Int.toNat_natCast, Nat.mul_one, beqI_yes, beqI_no, bneI_yes, bneI_no, isNil, wr_wr, Option.isNone_none, Option.isNone_some, plus, Nat.zero_add, Nat.add_zero, h2]; exact hn
      · have := this h2 h3
        simp (disch := omega) only [Option.bind_some, Option.map_some, cond_true, cond_false, wrap_i64, tmod_pos, tdiv_pos, inRange_yes, inUpto_yes, isZero_no, decide_eq_true, decide_eq_false, Bool.not_true, Bool.not_false, Int.toNat_natCast, Nat.mul_one, beqI_yes, beqI_no, bneI_yes, bneI_no, isNil, wr_wr, Option.isNone_none, Option.isNone_some, plus, Nat.zero_add, Nat.add_zero, h2]; exact hn
    · simp only [Bool.not_eq_false] at h2
      simp (disch := omega) only [Option.bind_some, Option.map_some, cond_true, cond_false, wrap_i64, tmod_pos, tdiv_pos, inRange_yes, inUpto_yes, isZero_no, decide_eq_true, decide_eq_false, Bool.not_true, Bool.not_false, Int.toNat_natCast, Nat.mul_one, beqI_yes, beqI_no, bneI_yes, bneI_no, isNil, wr_wr, Option.isNone_none, Option.isNone_some, plus, Nat.zero_add, Nat.add_zero, h2]; exact hn
  · simp (disch := omega) only [Option.bind_some, Option.map_some, cond_true, cond_false, wrap_i64, tmod_pos, tdiv_pos, inRange_yes, inUpto_yes, isZero_no, decide_eq_true, decide_eq_false, Bool.not_true, Bool.not_false, Int.toNat_natCast, Nat.mul_one, beqI_yes, beqI_no, bneI_yes, bneI_no, isNil, wr_wr, Option.isNone_none, Option.isNone_some, plus, Nat.zero_add, Nat.add_zero]; exact hx

theorem takes_ok (k : Nat) (hk : 100 < k) (kx0 : Bool → Mem → Option (Bool × Mem)) (kx4 : Mem → Option (Bool × Mem)) {P : Bool × Mem → Prop} {q : Nat} (hx : ∀ m, Ok (kx4 m) P) {n : Int} (hn : 1 ≤ n ∧ n ≤ 60) {m : Mem} {σ : PoolS} {u : Int → Bool}
    (hO : Own m [(2, .live (poolC σ)), (3, .live (barr 12 u)), (q, .live (arr .i64 12 fun _ => 0))]) (hA : Agree σ u) (hM : marks u 12 ≤ 9) :
    Ok (patinalaw11_PoolRound_l2 k kx0 kx4 k (some ⟨2, 0, none⟩) ⟨3, 0, none⟩ ⟨q, 0, none⟩ n 1 m) P := by
  refine patinalaw11_PoolRound_l2_rule k kx0 kx4 (fun d x6 x7 x10 x11 x12 m => some ⟨2, 0, none⟩ = x6 ∧ ⟨3, 0, none⟩ = x7 ∧ ⟨q, 0, none⟩ = x10 ∧ n = x11 ∧ 1 ≤ x12 ∧ x12 + d = 61 ∧
    ∃ σ u f, Own m [(2, .live (poolC σ)), (3, .live (barr 12 u)), (q, .live (arr .i64 12 f))] ∧ Turn σ u f x12) ?_ k 60 _ _ _ _ 1 m (by omega) ⟨rfl, rfl, rfl, rfl, by omega, by omega, _, _, _, hO, hA, hM, by simp, by simp⟩
  rintro d nx _ _ _ _ i m ⟨rfl, rfl, rfl, rfl, hi, hd, σ, u, f, hO, hT⟩ hnx
  unfold patinalaw11_PoolRound_l2_b
  by_cases h1 : i ≤ n
  · have hnx12 := hT.agree.1
    cases hfree : freeFrom σ.s σ.nx 0 12 with
    | none =>
      exfalso
      have h2 := freeFrom_none hnx12 12 0 rfl (by omega) (fun b h3 h4 h5 => by unfold ahead at h5; omega) hfree
      have h3 := marks_all u 12 (fun b h3 h4 => by have := hT.agree.2 b h3 (by omega); have := h2 b h3 (by omega); grind)
      have := hT.marks
      omega
    | some b =>
      obtain ⟨b0, b1, b2, b3⟩ := freeFrom_some hnx12 12 0 rfl (by omega) (fun b h3 h4 h5 => by unfold ahead at h5; omega) hfree
      have hub : u b = false := by have := hT.agree.2 b b0 b1; grind
      have hO1 := hO.wr 0 rfl (poolC ⟨upd σ.s b 1, b + 1⟩)
      have hfb := hT.old b b0 b1
      have goal : Ok (patinalaw11_PoolRound_j1 k nx (some ⟨2, 0, none⟩) ⟨3, 0, none⟩ ⟨q, 0, none⟩ n i b (wr m 2 (poolC ⟨upd σ.s b 1, b + 1⟩))) P := by
        unfold patinalaw11_PoolRound_j1
        have hO2 := hO1.wr 2 rfl (arr .i64 12 (upd f b i))
        simp (disch := omega) only [Option.bind_some, Option.map_some, cond_true, cond_false, wrap_i64, tmod_pos, tdiv_pos, inRange_yes, inUpto_yes, isZero_no, decide_eq_true, decide_eq_false, Bool.not_true, Bool.not_false, Int.toNat_natCast, Nat.mul_one, beqI_yes, beqI_no, bneI_yes, bneI_no, isNil, wr_wr, Option.isNone_none, Option.isNone_some, plus, Nat.zero_add, Nat.add_zero, arr_st (hO1.at 2 rfl), pool_Set_eq k (hO2.at 0 rfl) b 0]
        have hc : (PoolS.mk (upd σ.s b 1) (b + 1)).setCode b 0 = 0 := by unfold PoolS.setCode upd; grind
        have hO3 := hO2.wr 0 rfl (poolC ((PoolS.mk (upd σ.s b 1) (b + 1)).setTo b 0))
        refine hnx (d - 1) _ _ _ _ _ _ (by omega) ⟨rfl, rfl, rfl, rfl, by omega, by omega, _, _, _, hO3, ⟨⟨?_, ?_⟩, hT.marks, ?_, ?_⟩⟩
        · unfold PoolS.setTo; rw [if_pos hc]; simp only; omega
        · intro c c0 c1
          have := hT.agree.2 c c0 c1
          unfold PoolS.setTo; rw [if_pos hc]
          unfold upd
          grind
        · intro c c0 c1
          have := hT.old c c0 c1
          unfold upd; grind
        · intro x y x0 x1 y0 y1 ux uy hxy
          unfold PoolS.setTo at hxy; rw [if_pos hc] at hxy
          simp only at hxy
          have hox := hT.old x x0 x1
          have hoy := hT.old y y0 y1
          have hxb := b3 x x0 x1 (by have := hT.agree.2 x x0 x1; grind)
          have hyb := b3 y y0 y1 (by have := hT.agree.2 y y0 y1; grind)
          have hord := hT.order x y x0 x1 y0 y1 ux uy
          unfold upd ahead at *
          by_cases e1 : x = b
          · exfalso; subst e1; omega
          · rw [if_neg e1]
            by_cases e2 : y = b
            · rw [if_pos e2]; left; omega
            · rw [if_neg e2]
              have := hxb e1
              have := hyb e2
              apply hord
              omega
      simp (disch := omega) only [Option.bind_some, Option.map_some, cond_true, cond_false, wrap_i64, tmod_pos, tdiv_pos, inRange_yes, inUpto_yes, isZero_no, decide_eq_true, decide_eq_false, Bool.not_true, Bool.not_false, Int.toNat_natCast, Nat.mul_one, beqI_yes, beqI_no, bneI_yes, bneI_no, isNil, wr_wr, Option.isNone_none, Option.isNone_some, plus, Nat.zero_add, Nat.add_zero, pool_Take_eq k (hO.at 0 rfl) hnx12, hfree, barr_ld (hO1.at 1 rfl), hub, arr_ld (hO1.at 2 rfl)]
      by_cases hpos : f b > 0
      · simp (disch := omega) only [Option.bind_some, Option.map_some, cond_true, cond_false, wrap_i64, tmod_pos, tdiv_pos, inRange_yes, inUpto_yes, isZero_no, decide_eq_true, decide_eq_false, Bool.not_true, Bool.not_false, Int.toNat_natCast, Nat.mul_one, beqI_yes, beqI_no, bneI_yes, bneI_no, isNil, wr_wr, Option.isNone_none, Option.isNone_some, plus, Nat.zero_add, Nat.add_zero]
        refine look_ok k hk _ _ (F := []) (hO1.pick [1, 2] 3 (by decide)) ⟨b0, b1⟩ (fun c c0 c1 cu cne => ?_) goal
        have hs := hT.agree.2 c c0 c1
        have := b3 c c0 c1 (by grind) cne
        have := hT.order b c b0 b1 c0 c1 hub cu this
        omega
      · simp (disch := omega) only [Option.bind_some, Option.map_some, cond_true, cond_false, wrap_i64, tmod_pos, tdiv_pos, inRange_yes, inUpto_yes, isZero_no, decide_eq_true, decide_eq_false, Bool.not_true, Bool.not_false, Int.toNat_natCast, Nat.mul_one, beqI_yes, beqI_no, bneI_yes, bneI_no, isNil, wr_wr, Option.isNone_none, Option.isNone_some, plus, Nat.zero_add, Nat.add_zero]
        exact goal
  · simp (disch := omega) only [Option.bind_some, Option.map_some, cond_true, cond_false, wrap_i64, tmod_pos, tdiv_pos, inRange_yes, inUpto_yes, isZero_no, decide_eq_true, decide_eq_false, Bool.not_true, Bool.not_false, Int.toNat_natCast, Nat.mul_one, beqI_yes, beqI_no, bneI_yes, bneI_no, isNil, wr_wr, Option.isNone_none, Option.isNone_some, plus, Nat.zero_add, Nat.add_zero]
    exact hx m

theorem poolRound_run (o : MObj) (a : Option Addr) (N c' : Nat) (cs : List Value) (t : Int) (hh : Holds o 0 a N [.int .i64] cs) (hc : N ≤ c') (hN : N * 8 ≤ 140737488351232) (hw : (Lit.int .i64 t).wf = true) :
    ∃ k m', patinalaw11_PoolRound k a N c' t [o] = some (true, m') := by
  obtain ⟨m1, e1, e2, e3⟩ := up11_ok 1000 o
  have hk : 100 < 1000 + 20 := by omega
  generalize 1000 + 20 = k at e1 hk
  refine ⟨k, ?_⟩
  have key : Ok (patinalaw11_PoolRound k a N c' t [o]) fun r => r.1 = true := by
    unfold patinalaw11_PoolRound
    have hO0 : Own m1 [(0, o)] := ⟨by simp, by simp [e3]⟩
    simp (disch := omega) only [Option.bind_some, Option.map_some, cond_true, cond_false, wrap_i64, tmod_pos, tdiv_pos, inRange_yes, inUpto_yes, isZero_no, decide_eq_true, decide_eq_false, Bool.not_true, Bool.not_false, Int.toNat_natCast, Nat.mul_one, beqI_yes, beqI_no, bneI_yes, bneI_no, isNil, wr_wr, Option.isNone_none, Option.isNone_some, plus, Nat.zero_add, Nat.add_zero, e1, poolNew_is, e2]
    have hO1 := hO0.new (.live (poolC ⟨fun _ => 0, 0⟩))
    have hO2 := hO1.new (.live (repl 12 [.bool false]))
    rw [show repl 12 [Value.bool false] = barr 12 (fun _ => false) by rw [repl_bool]] at hO2 ⊢
    simp only [List.length_append, e2, List.length_cons, List.length_nil, Nat.zero_add, Nat.reduceAdd] at hO2 ⊢
    refine keep_ok k hk _ hh hN ?_ _ (hO2.pick [2, 1, 0] 3 (by decide))
    intro m σ u hO hA hM
    have hO3 := hO.new (.live (arr .i64 12 fun _ => 0))
    obtain ⟨r1, r2⟩ := pickI_range t (n := 60) (by omega)
    rw [show repl 12 [Value.int .i64 0] = arr .i64 12 (fun _ => 0) from repl_int]
    simp (disch := omega) only [Option.bind_some, Option.map_some, cond_true, cond_false, wrap_i64, tmod_pos, tdiv_pos, inRange_yes, inUpto_yes, isZero_no, decide_eq_true, decide_eq_false, Bool.not_true, Bool.not_false, Int.toNat_natCast, Nat.mul_one, beqI_yes, beqI_no, bneI_yes, bneI_no, isNil, wr_wr, Option.isNone_none, Option.isNone_some, plus, Nat.zero_add, Nat.add_zero, pick11_ok k t 60 _ hw (by omega)]
    exact takes_ok k hk _ _ (P := fun r => r.1 = true) (fun m => ⟨(true, m), rfl, rfl⟩) (n := 1 + pickI t 60) (by omega) (hO3.pick [2, 3, 0] 4 (by decide)) hA hM
  obtain ⟨⟨r, m'⟩, h1, h2⟩ := key
  exact ⟨m', by rw [h1]; simp only at h2; rw [h2]⟩
end Go.Proofs.Ytnilidpafijdlaa
