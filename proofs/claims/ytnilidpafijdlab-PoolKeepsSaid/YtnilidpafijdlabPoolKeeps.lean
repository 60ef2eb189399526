/- The plain law of PoolKeeps: bad blocks stay bad, the counts agree, the bound falls by two with each bad one. -/
import Derived.Test.YtnilidpafijdlabPool
import Derived.Test.YtnilidpafijdlabFLPoolKeeps
set_option linter.unusedVariables false
set_option linter.unusedSimpArgs false
namespace Go.Proofs.Ytnilidpafijdlab
open Go.Mx

theorem pick11_eq (k : Nat) (c n : Int) (m : Mem) (h1 : -9223372036854775808 ≤ c) (h2 : c < 9223372036854775808) (hn : 0 < n) : patinalaw11_pick k c n m = some ((if c < 0 then -(c + 1) else c) % n, m) := by
  unfold patinalaw11_pick patinalaw11_pick_j1
  by_cases h : c < 0
  · simp (disch := omega) only [Option.bind_some, Option.map_some, cond_true, cond_false, wrap_i64, tmod_pos, tdiv_pos, inRange_yes, inUpto_yes, isZero_no, decide_eq_true, decide_eq_false, Bool.not_true, Bool.not_false, Int.toNat_natCast, Nat.mul_one, beqI_yes, beqI_no, bneI_yes, bneI_no, isNil, wr_wr, Option.isNone_none, Option.isNone_some, plus, Nat.zero_add, Nat.add_zero, if_pos h]
    simp only [show 0 - (c + 1) = -(c + 1) by omega]
  · simp (disch := omega) only [Option.bind_some, Option.map_some, cond_true, cond_false, wrap_i64, tmod_pos, tdiv_pos, inRange_yes, inUpto_yes, isZero_no, decide_eq_true, decide_eq_false, Bool.not_true, Bool.not_false, Int.toNat_natCast, Nat.mul_one, beqI_yes, beqI_no, bneI_yes, bneI_no, isNil, wr_wr, Option.isNone_none, Option.isNone_some, plus, Nat.zero_add, Nat.add_zero, if_neg h]
def pickI (c n : Int) : Int := (if c < 0 then -(c + 1) else c) % n
theorem pickI_range (c : Int) {n : Int} (hn : 0 < n) : 0 ≤ pickI c n ∧ pickI c n < n := ⟨Int.emod_nonneg _ (by omega), Int.emod_lt_of_pos _ hn⟩
theorem pick11_ok (k : Nat) (c n : Int) (m : Mem) (h : (Lit.int .i64 c).wf = true) (hn : 0 < n) : patinalaw11_pick k c n m = some (pickI c n, m) := by
  have := wf_i64 h
  exact pick11_eq k c n m this.1 this.2 hn

theorem up11_ok (k : Nat) (o : MObj) : ∃ m, patinalaw11_up (k + 20) [o] = some (true, m) ∧ m.length = 2 ∧ m[0]? = some o := by
  have h : (patinalaw11_up (k + 20) [o]).map (fun r => (r.1, r.2.length, r.2[0]?)) = some (true, 2, some o) := by kernel_rfl
  obtain ⟨⟨b, m⟩, h1, h2⟩ := Option.map_eq_some_iff.1 h
  simp only [Prod.mk.injEq] at h2
  exact ⟨m, by rw [h1, h2.1], h2.2⟩

theorem countTo_sum (s : Int → Int) (n : Nat) (h : ∀ b : Int, 0 ≤ b → b < n → 0 ≤ s b ∧ s b ≤ 3) : countTo s 0 n + countTo s 1 n + countTo s 2 n + countTo s 3 n = n := by
  induction n with
  | zero => rfl
  | succ n ih =>
    have := ih (fun b h1 h2 => h b h1 (by omega))
    have := h n (by omega) (by omega)
    have e : ∀ w, countTo s w (n + 1) = countTo s w n + if s n = w then 1 else 0 := fun _ => rfl
    rw [e, e, e, e]
    grind
theorem countTo_mono (s t : Int → Int) (w : Int) (n : Nat) (h : ∀ b : Int, 0 ≤ b → b < n → s b = w → t b = w) : countTo s w n ≤ countTo t w n := by
  induction n with
  | zero => simp [countTo]
  | succ n ih =>
    have := ih (fun b h1 h2 => h b h1 (by omega))
    have := h n (by omega) (by omega)
    have e : ∀ s, countTo s w (n + 1) = countTo s w n + if s n = w then 1 else 0 := fun _ => rfl
    rw [e, e]
    grind

theorem keeps_j1 (k : Nat) (hk : 100 < k) {q : Option Addr} {N c' : Nat} {i : Int} {nx : Option Addr → Nat → Nat → Option Addr → Int → Int → Mem → Option (Bool × Mem)} {kx0 : Bool → Mem → Option (Bool × Mem)} {P : Bool × Mem → Prop} {σ τ : PoolS} {o : MObj} {m : Mem} {p w : Nat} {sp : Option Nat} {r3 : Sl × Mem} {r4 : Int × Mem}
    (hO : Own m [(0, o), (p, .live (poolC τ)), (w, .live (arr .i64 12 σ.s))]) (h3 : r3.1 = ⟨some ⟨w, 0, sp⟩, 12, 12⟩) (h4 : r4.1 = σ.bound) (hτ : τ.Wf) (hst : ∀ b, 0 ≤ b → b < 12 → σ.s b = 3 → τ.s b = 3) (hi : 0 ≤ i ∧ i < 9223372036854775807)
    (hx : ∀ m', Own m' [(0, o), (p, .live (poolC τ))] → Ok (nx q N c' (some ⟨p, 0, none⟩) (countTo τ.s 3 12) (i + 1) m') P) :
    Ok (patinalaw11_PoolKeeps_j1 k q N c' (some ⟨p, 0, none⟩) (countTo σ.s 3 12) i nx kx0 r3 r4 m) P := by
  unfold patinalaw11_PoolKeeps_j1
  obtain ⟨sp2, e1⟩ := pool_States_is k (hO.at 1 rfl)
  have hO2 := hO.new2 (.live []) (.live (arr .i64 12 τ.s))
  simp (disch := omega) only [Option.bind_some, Option.map_some, cond_true, cond_false, wrap_i64, tmod_pos, tdiv_pos, inRange_yes, inUpto_yes, isZero_no, decide_eq_true, decide_eq_false, Bool.not_true, Bool.not_false, Int.toNat_natCast, Nat.mul_one, beqI_yes, beqI_no, bneI_yes, bneI_no, isNil, wr_wr, Option.isNone_none, Option.isNone_some, plus, Nat.zero_add, Nat.add_zero, e1, h3, h4]
  have c1 := countTo_le τ.s 3 12
  have c2 := countTo_le τ.s 0 12
  have c3 := countTo_le τ.s 1 12
  have c4 := countTo_le τ.s 2 12
  have c0 := countTo_le σ.s 3 12
  have hmono := countTo_mono σ.s τ.s 3 12 (fun b h1 h2 => hst b h1 (by omega))
  have hsum := countTo_sum τ.s 12 (fun b h1 h2 => hτ.s b h1 (by omega))
  refine patinalaw11_PoolKeeps_l2_rule k _ _ (fun d x0a x0n x0c x4 x5 x6 x7a x7n x7c x8 x14a x14n x14c x15 m' => q = x0a ∧ N = x0n ∧ c' = x0c ∧ some ⟨p, 0, none⟩ = x4 ∧ countTo σ.s 3 12 = x5 ∧ i = x6 ∧ some ⟨w, 0, sp⟩ = x7a ∧ 12 = x7n ∧ 12 = x7c ∧ σ.bound = x8 ∧ some ⟨m.length + 1, 0, sp2⟩ = x14a ∧ 12 = x14n ∧ 12 = x14c ∧ 0 ≤ x15 ∧ x15 + d = 12 ∧ m ++ [MObj.live [], .live (arr .i64 12 τ.s)] = m')
    ?_ k 12 _ _ _ _ _ _ _ _ _ _ _ _ _ 0 _ (by omega) ⟨rfl, rfl, rfl, rfl, rfl, rfl, rfl, rfl, rfl, rfl, rfl, rfl, rfl, by omega, by omega, rfl⟩
  rintro d nx2 _ _ _ _ _ _ _ _ _ _ _ _ _ b _ ⟨rfl, rfl, rfl, rfl, rfl, rfl, rfl, rfl, rfl, rfl, rfl, rfl, rfl, hb, hd, rfl⟩ hnx
  unfold patinalaw11_PoolKeeps_l2_b
  by_cases h1 : b < 12
  · have hn := hnx (d - 1) q N c' (some ⟨p, 0, none⟩) (countTo σ.s 3 12) i (some ⟨w, 0, sp⟩) 12 12 σ.bound (some ⟨m.length + 1, 0, sp2⟩) 12 12 (b + 1) _ (by omega) ⟨rfl, rfl, rfl, rfl, rfl, rfl, rfl, rfl, rfl, rfl, rfl, rfl, rfl, by omega, by omega, rfl⟩
    have := hst b hb h1
    simp (disch := omega) only [Option.bind_some, Option.map_some, cond_true, cond_false, wrap_i64, tmod_pos, tdiv_pos, inRange_yes, inUpto_yes, isZero_no, decide_eq_true, decide_eq_false, Bool.not_true, Bool.not_false, Int.toNat_natCast, Nat.mul_one, beqI_yes, beqI_no, bneI_yes, bneI_no, isNil, wr_wr, Option.isNone_none, Option.isNone_some, plus, Nat.zero_add, Nat.add_zero, arr_ld (hO2.at 4 rfl), arr_ld (hO2.at 0 rfl), patinalaw11_PoolKeeps_j2]
    by_cases h2 : σ.s b = 3
    · have h3 := this h2
      simp (disch := omega) only [Option.bind_some, Option.map_some, cond_true, cond_false, wrap_i64, tmod_pos, tdiv_pos, inRange_yes, inUpto_yes, isZero_no, decide_eq_true, decide_eq_false, Bool.not_true, Bool.not_false, Int.toNat_natCast, Nat.mul_one, beqI_yes, beqI_no, bneI_yes, bneI_no, isNil, wr_wr, Option.isNone_none, Option.isNone_some, plus, Nat.zero_add, Nat.add_zero]; exact hn
    · simp (disch := omega) only [Option.bind_some, Option.map_some, cond_true, cond_false, wrap_i64, tmod_pos, tdiv_pos, inRange_yes, inUpto_yes, isZero_no, decide_eq_true, decide_eq_false, Bool.not_true, Bool.not_false, Int.toNat_natCast, Nat.mul_one, beqI_yes, beqI_no, bneI_yes, bneI_no, isNil, wr_wr, Option.isNone_none, Option.isNone_some, plus, Nat.zero_add, Nat.add_zero]; exact hn
  · have hp := hO2.at 3 rfl
    have hxx := hx _ (hO2.pick [2, 3] 5 (by decide))
    have hb1 : τ.bound ≤ σ.bound := by unfold PoolS.bound; grind
    have hb2 : countTo τ.s 3 12 = countTo σ.s 3 12 → τ.bound = σ.bound := by unfold PoolS.bound; grind
    have hb3 : countTo τ.s 3 12 = countTo σ.s 3 12 + 1 → σ.bound ≥ 3 → τ.bound = σ.bound - 2 := by unfold PoolS.bound; grind
    have hb4 : 0 ≤ σ.bound ∧ σ.bound ≤ 5 := by unfold PoolS.bound; grind
    have hj3 : ∀ r16 : Int × Mem, r16.1 = countTo τ.s 3 12 → Ok (patinalaw11_PoolKeeps_j3 k q N c' (some ⟨p, 0, none⟩) (countTo σ.s 3 12) i σ.bound nx kx0 r16 (m ++ [MObj.live [], .live (arr .i64 12 τ.s)])) P := by
      intro r16 h16
      unfold patinalaw11_PoolKeeps_j3 patinalaw11_PoolKeeps_j4
      rw [h16]
      by_cases g1 : countTo τ.s 3 12 = countTo σ.s 3 12 + 1
      · by_cases g2 : σ.bound ≥ 3
        · have := hb3 g1 g2
          simp (disch := omega) only [Option.bind_some, Option.map_some, cond_true, cond_false, wrap_i64, tmod_pos, tdiv_pos, inRange_yes, inUpto_yes, isZero_no, decide_eq_true, decide_eq_false, Bool.not_true, Bool.not_false, Int.toNat_natCast, Nat.mul_one, beqI_yes, beqI_no, bneI_yes, bneI_no, isNil, wr_wr, Option.isNone_none, Option.isNone_some, plus, Nat.zero_add, Nat.add_zero, pool_Bound_eq k hp]; exact hxx
        · simp (disch := omega) only [Option.bind_some, Option.map_some, cond_true, cond_false, wrap_i64, tmod_pos, tdiv_pos, inRange_yes, inUpto_yes, isZero_no, decide_eq_true, decide_eq_false, Bool.not_true, Bool.not_false, Int.toNat_natCast, Nat.mul_one, beqI_yes, beqI_no, bneI_yes, bneI_no, isNil, wr_wr, Option.isNone_none, Option.isNone_some, plus, Nat.zero_add, Nat.add_zero]; exact hxx
      · simp (disch := omega) only [Option.bind_some, Option.map_some, cond_true, cond_false, wrap_i64, tmod_pos, tdiv_pos, inRange_yes, inUpto_yes, isZero_no, decide_eq_true, decide_eq_false, Bool.not_true, Bool.not_false, Int.toNat_natCast, Nat.mul_one, beqI_yes, beqI_no, bneI_yes, bneI_no, isNil, wr_wr, Option.isNone_none, Option.isNone_some, plus, Nat.zero_add, Nat.add_zero]; exact hxx
    have hw : ((decide (countTo τ.s 3 12 > 2)) == decide (countTo τ.s 3 12 > 2)) = true := by simp
    simp (disch := omega) only [Option.bind_some, Option.map_some, cond_true, cond_false, wrap_i64, tmod_pos, tdiv_pos, inRange_yes, inUpto_yes, isZero_no, decide_eq_true, decide_eq_false, Bool.not_true, Bool.not_false, Int.toNat_natCast, Nat.mul_one, beqI_yes, beqI_no, bneI_yes, bneI_no, isNil, wr_wr, Option.isNone_none, Option.isNone_some, plus, Nat.zero_add, Nat.add_zero, pool_Count_eq k hp, pool_Bound_eq k hp, pool_Worn_eq k hp, hw]
    by_cases g1 : countTo τ.s 3 12 = countTo σ.s 3 12
    · have := hb2 g1
      simp (disch := omega) only [Option.bind_some, Option.map_some, cond_true, cond_false, wrap_i64, tmod_pos, tdiv_pos, inRange_yes, inUpto_yes, isZero_no, decide_eq_true, decide_eq_false, Bool.not_true, Bool.not_false, Int.toNat_natCast, Nat.mul_one, beqI_yes, beqI_no, bneI_yes, bneI_no, isNil, wr_wr, Option.isNone_none, Option.isNone_some, plus, Nat.zero_add, Nat.add_zero]
      exact hj3 _ rfl
    · simp (disch := omega) only [Option.bind_some, Option.map_some, cond_true, cond_false, wrap_i64, tmod_pos, tdiv_pos, inRange_yes, inUpto_yes, isZero_no, decide_eq_true, decide_eq_false, Bool.not_true, Bool.not_false, Int.toNat_natCast, Nat.mul_one, beqI_yes, beqI_no, bneI_yes, bneI_no, isNil, wr_wr, Option.isNone_none, Option.isNone_some, plus, Nat.zero_add, Nat.add_zero]
      exact hj3 _ rfl

theorem keeps_round (k : Nat) (hk : 100 < k) {q : Option Addr} {N c' : Nat} {i : Int} {nx : Option Addr → Nat → Nat → Option Addr → Int → Int → Mem → Option (Bool × Mem)} {kx0 : Bool → Mem → Option (Bool × Mem)} {kx2 : Mem → Option (Bool × Mem)} {P : Bool × Mem → Prop} {σ : PoolS} {o : MObj} {m : Mem} {p : Nat} {cs : List Value}
    (hh : Holds o 0 q N [.int .i64, .int .i64, .int .i64] cs) (hO : Own m [(0, o), (p, .live (poolC σ))]) (hσ : σ.Wf) (hi : 0 ≤ i ∧ i < N) (hN : N * 24 ≤ 140737488351232)
    (hx : ∀ m' τ, τ.Wf → Own m' [(0, o), (p, .live (poolC τ))] → Ok (nx q N c' (some ⟨p, 0, none⟩) (countTo τ.s 3 12) (i + 1) m') P) :
    Ok (patinalaw11_PoolKeeps_l0_b k nx kx0 kx2 q N c' (some ⟨p, 0, none⟩) (countTo σ.s 3 12) i m) P := by
  unfold patinalaw11_PoolKeeps_l0_b
  obtain ⟨sp, e1⟩ := pool_States_is k (hO.at 1 rfl)
  have hO2 := hO.new2 (.live []) (.live (arr .i64 12 σ.s))
  have hp := hh.ptr (j := i.toNat) (by omega)
  subst hp
  obtain ⟨u, v, w, e2, w1, w2, w3⟩ := hh.ld3 (hO2.at 2 rfl) hi.1 hi.2
  simp (disch := omega) only [Option.bind_some, Option.map_some, cond_true, cond_false, wrap_i64, tmod_pos, tdiv_pos, inRange_yes, inUpto_yes, isZero_no, decide_eq_true, decide_eq_false, Bool.not_true, Bool.not_false, Int.toNat_natCast, Nat.mul_one, beqI_yes, beqI_no, bneI_yes, bneI_no, isNil, wr_wr, Option.isNone_none, Option.isNone_some, plus, Nat.zero_add, Nat.add_zero, e1, pool_Bound_eq k (hO2.at 3 rfl), e2]
  generalize hm2 : m ++ [MObj.live [], .live (arr .i64 12 σ.s)] = m2 at hO2 e2
  have hO3 := hO2.new (.live [.int .i64 0, .int .i64 0, .int .i64 0])
  have e3 := stCells_wr (sp := none) (off := 0) (vs := [.int .i64 u, .int .i64 v, .int .i64 w]) (hO3.at 0 rfl) (by simp)
  have hO4 := hO3.wr 0 rfl [.int .i64 u, .int .i64 v, .int .i64 w]
  simp only [List.take, List.drop, List.nil_append, List.length_cons, List.length_nil, Nat.zero_add, Nat.reduceAdd, List.append_nil] at e3
  have l0 := hO4.ldInt (sp := none) 0 rfl (off := 0) (k := .i64) (z := u) rfl
  have l1 := hO4.ldInt (sp := none) 0 rfl (off := 1) (k := .i64) (z := v) rfl
  have l2 := hO4.ldInt (sp := none) 0 rfl (off := 2) (k := .i64) (z := w) rfl
  obtain ⟨a1, a2⟩ := pickI_range u (n := 2) (by omega)
  obtain ⟨b1, b2⟩ := pickI_range v (n := 12) (by omega)
  obtain ⟨c1, c2⟩ := pickI_range w (n := 4) (by omega)
  simp (disch := omega) only [Option.bind_some, Option.map_some, cond_true, cond_false, wrap_i64, tmod_pos, tdiv_pos, inRange_yes, inUpto_yes, isZero_no, decide_eq_true, decide_eq_false, Bool.not_true, Bool.not_false, Int.toNat_natCast, Nat.mul_one, beqI_yes, beqI_no, bneI_yes, bneI_no, isNil, wr_wr, Option.isNone_none, Option.isNone_some, plus, Nat.zero_add, Nat.add_zero, e3, l0, pick11_ok k u 2 _ w1 (by omega), show Nat.beq (List.length [Value.int .i64 u, Value.int .i64 v, Value.int .i64 w]) 3 = true from rfl]
  have hpo := hO4.at 4 rfl
  by_cases g1 : pickI u 2 = 0
  · simp (disch := omega) only [Option.bind_some, Option.map_some, cond_true, cond_false, wrap_i64, tmod_pos, tdiv_pos, inRange_yes, inUpto_yes, isZero_no, decide_eq_true, decide_eq_false, Bool.not_true, Bool.not_false, Int.toNat_natCast, Nat.mul_one, beqI_yes, beqI_no, bneI_yes, bneI_no, isNil, wr_wr, Option.isNone_none, Option.isNone_some, plus, Nat.zero_add, Nat.add_zero, l1, pick11_ok k v 12 _ w2 (by omega), l2, pick11_ok k w 4 _ w3 (by omega), pool_Set_eq k hpo]
    refine keeps_j1 k hk (σ := σ) (τ := σ.setTo (pickI v 12) (pickI w 4)) ((hO4.wr 4 rfl (poolC (σ.setTo (pickI v 12) (pickI w 4)))).pick [3, 4, 1] 5 (by decide)) rfl rfl ?_ ?_ (by omega) (fun m' h => hx m' _ ?_ h)
    · refine ⟨by unfold PoolS.setTo; grind [hσ.nx], fun b h1 h2 => ?_⟩
      have := hσ.s b h1 h2
      unfold PoolS.setTo upd; grind
    · intro b h1 h2 h3
      unfold PoolS.setTo PoolS.setCode upd; grind
    · refine ⟨by unfold PoolS.setTo; grind [hσ.nx], fun b h1 h2 => ?_⟩
      have := hσ.s b h1 h2
      unfold PoolS.setTo upd; grind
  · simp (disch := omega) only [Option.bind_some, Option.map_some, cond_true, cond_false, wrap_i64, tmod_pos, tdiv_pos, inRange_yes, inUpto_yes, isZero_no, decide_eq_true, decide_eq_false, Bool.not_true, Bool.not_false, Int.toNat_natCast, Nat.mul_one, beqI_yes, beqI_no, bneI_yes, bneI_no, isNil, wr_wr, Option.isNone_none, Option.isNone_some, plus, Nat.zero_add, Nat.add_zero, pool_Take_eq k hpo hσ.nx]
    cases hf : freeFrom σ.s σ.nx 0 12 with
    | none =>
      simp (disch := omega) only [Option.bind_some, Option.map_some, cond_true, cond_false, wrap_i64, tmod_pos, tdiv_pos, inRange_yes, inUpto_yes, isZero_no, decide_eq_true, decide_eq_false, Bool.not_true, Bool.not_false, Int.toNat_natCast, Nat.mul_one, beqI_yes, beqI_no, bneI_yes, bneI_no, isNil, wr_wr, Option.isNone_none, Option.isNone_some, plus, Nat.zero_add, Nat.add_zero, patinalaw11_PoolKeeps_j5]
      exact keeps_j1 k hk (σ := σ) (τ := σ) (hO4.pick [3, 4, 1] 5 (by decide)) rfl rfl hσ (fun b _ _ h => h) (by omega) (fun m' h => hx m' _ hσ h)
    | some b =>
      obtain ⟨f1, f2, f3⟩ := freeFrom_zero hσ.nx 12 0 (by omega) hf
      have hO5 := hO4.wr 4 rfl (poolC ⟨upd σ.s b 1, b + 1⟩)
      have hs : (PoolS.mk (upd σ.s b 1) (b + 1)).s b = 1 := by simp
      simp (disch := omega) only [Option.bind_some, Option.map_some, cond_true, cond_false, wrap_i64, tmod_pos, tdiv_pos, inRange_yes, inUpto_yes, isZero_no, decide_eq_true, decide_eq_false, Bool.not_true, Bool.not_false, Int.toNat_natCast, Nat.mul_one, beqI_yes, beqI_no, bneI_yes, bneI_no, isNil, wr_wr, Option.isNone_none, Option.isNone_some, plus, Nat.zero_add, Nat.add_zero, arr_ld (hO5.at 1 rfl), f3, patinalaw11_PoolKeeps_j5, pool_State_is k (hO5.at 4 rfl), if_pos (And.intro f1 f2), hs]
      have hwf : (PoolS.mk (upd σ.s b 1) (b + 1)).Wf := by
        refine ⟨by simp only; omega, fun c h1 h2 => ?_⟩
        have := hσ.s c h1 h2
        simp only [upd]; grind
      refine keeps_j1 k hk (σ := σ) (τ := ⟨upd σ.s b 1, b + 1⟩) (hO5.pick [3, 4, 1] 5 (by decide)) rfl rfl hwf ?_ (by omega) (fun m' h => hx m' _ hwf h)
      intro c h1 h2 h3
      simp only [upd]; grind

theorem poolKeeps_run (o : MObj) (q : Option Addr) (N c' : Nat) (cs : List Value) (hh : Holds o 0 q N [.int .i64, .int .i64, .int .i64] cs) (hc : N ≤ c') (hN : N * 24 ≤ 140737488351232) :
    ∃ k m', patinalaw11_PoolKeeps k q N c' [o] = some (true, m') := by
  obtain ⟨m1, e1, e2, e3⟩ := up11_ok (N + 1000) o
  have hk : 100 + N < N + 1000 + 20 := by omega
  generalize N + 1000 + 20 = k at e1 hk
  refine ⟨k, ?_⟩
  have key : Ok (patinalaw11_PoolKeeps k q N c' [o]) fun r => r.1 = true := by
    unfold patinalaw11_PoolKeeps
    have hO0 : Own m1 [(0, o)] := ⟨by simp, by simp [e3]⟩
    simp (disch := omega) only [Option.bind_some, Option.map_some, cond_true, cond_false, wrap_i64, tmod_pos, tdiv_pos, inRange_yes, inUpto_yes, isZero_no, decide_eq_true, decide_eq_false, Bool.not_true, Bool.not_false, Int.toNat_natCast, Nat.mul_one, beqI_yes, beqI_no, bneI_yes, bneI_no, isNil, wr_wr, Option.isNone_none, Option.isNone_some, plus, Nat.zero_add, Nat.add_zero, e1, poolNew_is, e2]
    have hO1 := hO0.new (.live (poolC ⟨fun _ => 0, 0⟩))
    rw [e2] at hO1
    refine patinalaw11_PoolKeeps_l0_rule k _ _ (fun d x0a x0n x0c x4 x5 x6 m => q = x0a ∧ N = x0n ∧ c' = x0c ∧ some ⟨2, 0, none⟩ = x4 ∧ 0 ≤ x6 ∧ x6 + d = N ∧ ∃ σ : PoolS, Own m [(0, o), (2, .live (poolC σ))] ∧ σ.Wf ∧ countTo σ.s 3 12 = x5)
      ?_ k N _ _ _ _ _ 0 _ (by omega) ⟨rfl, rfl, rfl, rfl, by omega, by omega, _, hO1.pick [1, 0] 2 (by decide), ⟨by simp, by simp⟩, rfl⟩
    rintro d nx _ _ _ _ _ i m ⟨rfl, rfl, rfl, rfl, hi, hd, σ, hO, hσ, rfl⟩ hnx
    by_cases h1 : i < N
    · exact keeps_round k (by omega) hh hO hσ ⟨hi, h1⟩ hN fun m' τ hτ h => hnx (d - 1) _ _ _ _ _ _ _ (by omega) ⟨rfl, rfl, rfl, rfl, by omega, by omega, τ, h, hτ, rfl⟩
    · unfold patinalaw11_PoolKeeps_l0_b
      simp (disch := omega) only [Option.bind_some, Option.map_some, cond_true, cond_false, wrap_i64, tmod_pos, tdiv_pos, inRange_yes, inUpto_yes, isZero_no, decide_eq_true, decide_eq_false, Bool.not_true, Bool.not_false, Int.toNat_natCast, Nat.mul_one, beqI_yes, beqI_no, bneI_yes, bneI_no, isNil, wr_wr, Option.isNone_none, Option.isNone_some, plus, Nat.zero_add, Nat.add_zero]
      exact .some rfl
  obtain ⟨⟨r, m'⟩, h1, h2⟩ := key
  exact ⟨m', by rw [h1]; simp only at h2; rw [h2]⟩
end Go.Proofs.Ytnilidpafijdlab
