/- The plain law of PatrolRounds: twelve calls go round all pages, from any cursor; a cursor of some calls ago costs as many more. -/
import Derived.Test.YtnilidpafijdlabPatrol
import Derived.Test.YtnilidpafijdlabFLPatrolRounds
set_option linter.unusedVariables false
set_option linter.unusedSimpArgs false
namespace Go.Proofs.Ytnilidpafijdlab
open Go.Mx

theorem pick15_eq (k : Nat) (c n : Int) (m : Mem) (h1 : -9223372036854775808 ≤ c) (h2 : c < 9223372036854775808) (hn : 0 < n) : patinalaw15_pick k c n m = some ((if c < 0 then -(c + 1) else c) % n, m) := by
  unfold patinalaw15_pick patinalaw15_pick_j1
  by_cases h : c < 0
  · simp (disch := omega) only [Option.bind_some, Option.map_some, cond_true, cond_false, wrap_i64, tmod_pos, tdiv_pos, inRange_yes, inUpto_yes, isZero_no, decide_eq_true, decide_eq_false, Bool.not_true, Bool.not_false, Int.toNat_natCast, Nat.mul_one, beqI_yes, beqI_no, bneI_yes, bneI_no, isNil_nil, isNil_iface, wr_wr, Option.isNone_none, Option.isNone_some, plus, Nat.zero_add, Nat.add_zero, if_pos h]
    simp only [show 0 - (c + 1) = -(c + 1) by omega]
  · simp (disch := omega) only [Option.bind_some, Option.map_some, cond_true, cond_false, wrap_i64, tmod_pos, tdiv_pos, inRange_yes, inUpto_yes, isZero_no, decide_eq_true, decide_eq_false, Bool.not_true, Bool.not_false, Int.toNat_natCast, Nat.mul_one, beqI_yes, beqI_no, bneI_yes, bneI_no, isNil_nil, isNil_iface, wr_wr, Option.isNone_none, Option.isNone_some, plus, Nat.zero_add, Nat.add_zero, if_neg h]
def pickI (c n : Int) : Int := (if c < 0 then -(c + 1) else c) % n
theorem pickI_range (c : Int) {n : Int} (hn : 0 < n) : 0 ≤ pickI c n ∧ pickI c n < n := ⟨Int.emod_nonneg _ (by omega), Int.emod_lt_of_pos _ hn⟩
theorem pick15_ok (k : Nat) (c n : Int) (m : Mem) (h : (Lit.int .i64 c).wf = true) (hn : 0 < n) : patinalaw15_pick k c n m = some (pickI c n, m) := by
  have := wf_i64 h
  exact pick15_eq k c n m this.1 this.2 hn

theorem up15_ok (k : Nat) : ∃ m, patinalaw15_up (k + 40) [] = some (true, m) := by
  have h : (patinalaw15_up (k + 40) []).map (fun r => r.1) = some true := by kernel_rfl
  obtain ⟨⟨b, m⟩, h1, h2⟩ := Option.map_eq_some_iff.1 h
  simp only at h2
  exact ⟨m, by rw [h1, h2]⟩

section
variable (k : Nat) (hk : 200 < k) {P : Bool × Mem → Prop}
include hk

/-- one of the twelve lists is counted -/
theorem rl4_ok {kx0 : Bool → Mem → Option (Bool × Mem)} {kx6 : Option Addr → Int → Int → Option Addr → Nat → Nat → Int → Addr → Int → Mem → Option (Bool × Mem)} {m : Mem} {w s : Nat} {b t : Int} {F : Heap} {x9 : Option Addr} {x11 x12 : Int} {x13a : Option Addr} {x13n x13c : Nat} {x15 x17 : Int} (hb : 0 ≤ b ∧ b < 96) (ht : 0 ≤ t ∧ t + 8 ≤ 96)
    (hO : Own m ((w, .live (arr .i64 8 fun q => ((b + t) % 96 + q) % 96)) :: (s, .live (arr .i64 96 fun p => if (p - b) % 96 < t then 1 else 0)) :: F))
    (hx : ∀ m, Own m ((s, .live (arr .i64 96 fun p => if (p - b) % 96 < t + 8 then 1 else 0)) :: F) → Ok (kx6 x9 x11 x12 x13a x13n x13c x15 ⟨s, 0, none⟩ x17 m) P) :
    Ok (patinalaw15_PatrolRounds_l4 k kx0 kx6 k x9 x11 x12 x13a x13n x13c x15 ⟨s, 0, none⟩ x17 (some ⟨w, 0, none⟩) 8 8 0 m) P := by
  refine patinalaw15_PatrolRounds_l4_rule k _ _ (fun d y9 y11 y12 y13a y13n y13c y15 y16 y17 y18a y18n y18c y19 m' => x9 = y9 ∧ x11 = y11 ∧ x12 = y12 ∧ x13a = y13a ∧ x13n = y13n ∧ x13c = y13c ∧ x15 = y15 ∧ ⟨s, 0, none⟩ = y16 ∧ x17 = y17 ∧ some ⟨w, 0, none⟩ = y18a ∧ 8 = y18n ∧ 8 = y18c ∧ 0 ≤ y19 ∧ y19 + d = 8 ∧
    Own m' ((w, .live (arr .i64 8 fun q => ((b + t) % 96 + q) % 96)) :: (s, .live (arr .i64 96 fun p => if (p - b) % 96 < t + y19 then 1 else 0)) :: F)) ?_ k 8 _ _ _ _ _ _ _ _ _ _ _ _ 0 _ (by omega) ⟨rfl, rfl, rfl, rfl, rfl, rfl, rfl, rfl, rfl, rfl, rfl, rfl, by omega, by omega, by simpa using hO⟩
  rintro d nx _ _ _ _ _ _ _ _ _ _ _ _ i m' ⟨rfl, rfl, rfl, rfl, rfl, rfl, rfl, rfl, rfl, rfl, rfl, rfl, hi, hd, hO⟩ hnx
  unfold patinalaw15_PatrolRounds_l4_b
  by_cases h1 : i < 8
  · have e : (if (((b + t) % 96 + i) % 96 - b) % 96 < t + i then (1 : Int) else 0) = 0 := if_neg (by omega)
    simp (disch := omega) only [Option.bind_some, Option.map_some, cond_true, cond_false, wrap_i64, tmod_pos, tdiv_pos, inRange_yes, inUpto_yes, isZero_no, decide_eq_true, decide_eq_false, Bool.not_true, Bool.not_false, Int.toNat_natCast, Nat.mul_one, beqI_yes, beqI_no, bneI_yes, bneI_no, isNil_nil, isNil_iface, wr_wr, Option.isNone_none, Option.isNone_some, plus, Nat.zero_add, Nat.add_zero, arr_ld (hO.at 0 rfl), arr_ld (hO.at 1 rfl), arr_st (hO.at 1 rfl), e]
    refine hnx (d - 1) _ _ _ _ _ _ _ _ _ _ _ _ _ _ (by omega) ⟨rfl, rfl, rfl, rfl, rfl, rfl, rfl, rfl, rfl, rfl, rfl, rfl, by omega, by omega, ?_⟩
    have := hO.wr 1 rfl (arr .i64 96 (upd (fun p => if (p - b) % 96 < t + i then 1 else 0) (((b + t) % 96 + i) % 96) (0 + 1)))
    have e2 : arr .i64 96 (upd (fun p => if (p - b) % 96 < t + i then 1 else 0) (((b + t) % 96 + i) % 96) (0 + 1)) = arr .i64 96 (fun p => if (p - b) % 96 < t + (i + 1) then 1 else 0) := arr_congr fun p h2 h3 => by
      unfold upd
      by_cases h4 : p = ((b + t) % 96 + i) % 96
      · rw [if_pos h4, if_pos (by omega)]; rfl
      · rw [if_neg h4]
        simp only []
        by_cases h5 : (p - b) % 96 < t + i
        · rw [if_pos h5, if_pos (by omega)]
        · rw [if_neg h5, if_neg (by omega)]
    rw [e2] at this ⊢
    exact this
  · have : i = 8 := by omega
    subst this
    simp (disch := omega) only [Option.bind_some, Option.map_some, cond_true, cond_false, wrap_i64, tmod_pos, tdiv_pos, inRange_yes, inUpto_yes, isZero_no, decide_eq_true, decide_eq_false, Bool.not_true, Bool.not_false, Int.toNat_natCast, Nat.mul_one, beqI_yes, beqI_no, bneI_yes, bneI_no, isNil_nil, isNil_iface, wr_wr, Option.isNone_none, Option.isNone_some, plus, Nat.zero_add, Nat.add_zero]
    exact hx m' hO.tail

/-- pages are marked -/
theorem rl10_ok {kx12 : Int → Int → Option Addr → Nat → Nat → Option Addr → Addr → Int → Mem → Option (Bool × Mem)} {m : Mem} {w s : Nat} {c : Int} {F : Heap} {x11 x12 : Int} {x13a : Option Addr} {x13n x13c : Nat} {x21 : Option Addr} {x24 : Int} {f : Int → Bool}
    (hO : Own m ((w, .live (arr .i64 8 fun q => (c + q) % 96)) :: (s, .live (barr 96 f)) :: F))
    (hx : ∀ m f, Own m ((s, .live (barr 96 f)) :: F) → Ok (kx12 x11 x12 x13a x13n x13c x21 ⟨s, 0, none⟩ x24 m) P) :
    Ok (patinalaw15_PatrolRounds_l10 k kx12 k x11 x12 x13a x13n x13c x21 ⟨s, 0, none⟩ x24 (some ⟨w, 0, none⟩) 8 8 0 m) P := by
  refine patinalaw15_PatrolRounds_l10_rule k _ (fun d y11 y12 y13a y13n y13c y21 y23 y24 y25a y25n y25c y26 m' => x11 = y11 ∧ x12 = y12 ∧ x13a = y13a ∧ x13n = y13n ∧ x13c = y13c ∧ x21 = y21 ∧ ⟨s, 0, none⟩ = y23 ∧ x24 = y24 ∧ some ⟨w, 0, none⟩ = y25a ∧ 8 = y25n ∧ 8 = y25c ∧ 0 ≤ y26 ∧ y26 + d = 8 ∧
    ∃ f, Own m' ((w, .live (arr .i64 8 fun q => (c + q) % 96)) :: (s, .live (barr 96 f)) :: F)) ?_ k 8 _ _ _ _ _ _ _ _ _ _ _ 0 _ (by omega) ⟨rfl, rfl, rfl, rfl, rfl, rfl, rfl, rfl, rfl, rfl, rfl, by omega, by omega, f, hO⟩
  rintro d nx _ _ _ _ _ _ _ _ _ _ _ i m' ⟨rfl, rfl, rfl, rfl, rfl, rfl, rfl, rfl, rfl, rfl, rfl, hi, hd, f, hO⟩ hnx
  unfold patinalaw15_PatrolRounds_l10_b
  by_cases h1 : i < 8
  · simp (disch := omega) only [Option.bind_some, Option.map_some, cond_true, cond_false, wrap_i64, tmod_pos, tdiv_pos, inRange_yes, inUpto_yes, isZero_no, decide_eq_true, decide_eq_false, Bool.not_true, Bool.not_false, Int.toNat_natCast, Nat.mul_one, beqI_yes, beqI_no, bneI_yes, bneI_no, isNil_nil, isNil_iface, wr_wr, Option.isNone_none, Option.isNone_some, plus, Nat.zero_add, Nat.add_zero, arr_ld (hO.at 0 rfl), barr_st (hO.at 1 rfl)]
    exact hnx (d - 1) _ _ _ _ _ _ _ _ _ _ _ _ _ (by omega) ⟨rfl, rfl, rfl, rfl, rfl, rfl, rfl, rfl, rfl, rfl, rfl, by omega, by omega, _, hO.wr 1 rfl _⟩
  · simp (disch := omega) only [Option.bind_some, Option.map_some, cond_true, cond_false, wrap_i64, tmod_pos, tdiv_pos, inRange_yes, inUpto_yes, isZero_no, decide_eq_true, decide_eq_false, Bool.not_true, Bool.not_false, Int.toNat_natCast, Nat.mul_one, beqI_yes, beqI_no, bneI_yes, bneI_no, isNil_nil, isNil_iface, wr_wr, Option.isNone_none, Option.isNone_some, plus, Nat.zero_add, Nat.add_zero]
    exact hx m' f hO.tail
theorem rl14_ok {kx16 : Option Addr → Addr → Int → Mem → Option (Bool × Mem)} {m : Mem} {w s : Nat} {b t : Int} {F : Heap} {x21 : Option Addr} {x27 : Int} {f : Int → Bool} (hb : 0 ≤ b ∧ b < 96) (ht : 0 ≤ t ∧ t + 8 ≤ 96) (hf : ∀ p, 0 ≤ p → p < 96 → (p - b) % 96 < t → f p = true)
    (hO : Own m ((w, .live (arr .i64 8 fun q => ((b + t) % 96 + q) % 96)) :: (s, .live (barr 96 f)) :: F))
    (hx : ∀ m f, (∀ p, 0 ≤ p → p < 96 → (p - b) % 96 < t + 8 → f p = true) → Own m ((s, .live (barr 96 f)) :: F) → Ok (kx16 x21 ⟨s, 0, none⟩ x27 m) P) :
    Ok (patinalaw15_PatrolRounds_l14 k kx16 k x21 ⟨s, 0, none⟩ x27 (some ⟨w, 0, none⟩) 8 8 0 m) P := by
  refine patinalaw15_PatrolRounds_l14_rule k _ (fun d y21 y23 y27 y28a y28n y28c y29 m' => x21 = y21 ∧ ⟨s, 0, none⟩ = y23 ∧ x27 = y27 ∧ some ⟨w, 0, none⟩ = y28a ∧ 8 = y28n ∧ 8 = y28c ∧ 0 ≤ y29 ∧ y29 + d = 8 ∧
    ∃ f : Int → Bool, (∀ p, 0 ≤ p → p < 96 → (p - b) % 96 < t + y29 → f p = true) ∧ Own m' ((w, .live (arr .i64 8 fun q => ((b + t) % 96 + q) % 96)) :: (s, .live (barr 96 f)) :: F)) ?_ k 8 _ _ _ _ _ _ 0 _ (by omega) ⟨rfl, rfl, rfl, rfl, rfl, rfl, by omega, by omega, f, by simpa using hf, hO⟩
  rintro d nx _ _ _ _ _ _ i m' ⟨rfl, rfl, rfl, rfl, rfl, rfl, hi, hd, f, hf, hO⟩ hnx
  unfold patinalaw15_PatrolRounds_l14_b
  by_cases h1 : i < 8
  · simp (disch := omega) only [Option.bind_some, Option.map_some, cond_true, cond_false, wrap_i64, tmod_pos, tdiv_pos, inRange_yes, inUpto_yes, isZero_no, decide_eq_true, decide_eq_false, Bool.not_true, Bool.not_false, Int.toNat_natCast, Nat.mul_one, beqI_yes, beqI_no, bneI_yes, bneI_no, isNil_nil, isNil_iface, wr_wr, Option.isNone_none, Option.isNone_some, plus, Nat.zero_add, Nat.add_zero, arr_ld (hO.at 0 rfl), barr_st (hO.at 1 rfl)]
    refine hnx (d - 1) _ _ _ _ _ _ _ _ (by omega) ⟨rfl, rfl, rfl, rfl, rfl, rfl, by omega, by omega, _, fun p h2 h3 h4 => ?_, hO.wr 1 rfl _⟩
    unfold upd
    by_cases h5 : p = ((b + t) % 96 + i) % 96
    · rw [if_pos h5]
    · rw [if_neg h5]
      exact hf p h2 h3 (by omega)
  · have : i = 8 := by omega
    subst this
    simp (disch := omega) only [Option.bind_some, Option.map_some, cond_true, cond_false, wrap_i64, tmod_pos, tdiv_pos, inRange_yes, inUpto_yes, isZero_no, decide_eq_true, decide_eq_false, Bool.not_true, Bool.not_false, Int.toNat_natCast, Nat.mul_one, beqI_yes, beqI_no, bneI_yes, bneI_no, isNil_nil, isNil_iface, wr_wr, Option.isNone_none, Option.isNone_some, plus, Nat.zero_add, Nat.add_zero]
    exact hx m' f hf hO.tail
end

theorem patrolRounds_run (u v w : Int) (w1 : (Lit.int .i64 u).wf = true) (w2 : (Lit.int .i64 v).wf = true) (w3 : (Lit.int .i64 w).wf = true) :
    ∃ k m', patinalaw15_PatrolRounds k u v w [] = some (true, m') := by
  obtain ⟨m1, e1⟩ := up15_ok 1000
  have hk : 200 < 1000 + 40 := by omega
  generalize 1000 + 40 = k at e1 hk
  refine ⟨k, ?_⟩
  have key : Ok (patinalaw15_PatrolRounds k u v w []) fun r => r.1 = true := by
    unfold patinalaw15_PatrolRounds
    obtain ⟨a1, a2⟩ := pickI_range u (n := 96) (by omega)
    obtain ⟨b1, b2⟩ := pickI_range v (n := 30) (by omega)
    obtain ⟨c1, c2⟩ := pickI_range w (n := 9) (by omega)
    simp (disch := omega) only [Option.bind_some, Option.map_some, cond_true, cond_false, wrap_i64, tmod_pos, tdiv_pos, inRange_yes, inUpto_yes, isZero_no, decide_eq_true, decide_eq_false, Bool.not_true, Bool.not_false, Int.toNat_natCast, Nat.mul_one, beqI_yes, beqI_no, bneI_yes, bneI_no, isNil_nil, isNil_iface, wr_wr, Option.isNone_none, Option.isNone_some, plus, Nat.zero_add, Nat.add_zero, e1, pick15_ok k u 96 _ w1 (by omega), pick15_ok k v 30 _ w2 (by omega), pick15_ok k w 9 _ w3 (by omega), patrolNew_is k (pickI u 96) _ ⟨a1, a2⟩]
    have hO0 := (Own.nil m1).new (.live (patC (pickI u 96) 0))
    generalize hp : m1.length = p at *
    generalize pickI u 96 = a at *
    generalize pickI v 30 = n at *
    generalize pickI w 9 = kk at *
    refine patinalaw15_PatrolRounds_l0_rule k _ (fun d x9 x11 x12 x13a x13n x13c x14 m => some ⟨p, 0, none⟩ = x9 ∧ n = x11 ∧ kk = x12 ∧ 0 ≤ x14 ∧ x14 ≤ n ∧ x14 + d = 30 ∧ ∃ l : List Int, ∃ c : Int, l.length = x14 ∧ (∀ x ∈ l, 0 ≤ x ∧ x < 96) ∧ (0 ≤ c ∧ c < 96) ∧ App 1 x13a x13n x13c (ints l) ∧
      Own m (slH x13a (ints l) ++ [(p, .live (patC c x14))])) ?_ k 30 _ _ _ _ _ _ 0 _ (by omega) ⟨rfl, rfl, rfl, by omega, by omega, by omega, [], a, rfl, by simp, ⟨a1, a2⟩, .nil, hO0⟩
    rintro d nx _ _ _ a' n' c' i m ⟨rfl, rfl, rfl, hi, hin, hd, l, c, hl, hr, hc, hA, hO⟩ hnx
    have hn := hA.len
    simp only [ints_length, Nat.mul_one] at hn
    unfold patinalaw15_PatrolRounds_l0_b
    by_cases h1 : i < n
    · obtain ⟨a'', m', q1, q2, q3⟩ := hA.one (y := 8) (v := .int .i64 c) hO (by unfold most; omega) (by unfold most; omega)
      simp (disch := omega) only [Option.bind_some, Option.map_some, cond_true, cond_false, wrap_i64, tmod_pos, tdiv_pos, inRange_yes, inUpto_yes, isZero_no, decide_eq_true, decide_eq_false, Bool.not_true, Bool.not_false, Int.toNat_natCast, Nat.mul_one, beqI_yes, beqI_no, bneI_yes, bneI_no, isNil_nil, isNil_iface, wr_wr, Option.isNone_none, Option.isNone_some, plus, Nat.zero_add, Nat.add_zero, patrol_Cursor_is k (hO.back.at 0 rfl), rdSl_new, q1]
      have q3' : Own m' ((p, .live (patC c i)) :: slH a'' (ints l ++ [.int .i64 c])) := by
        simpa using Own.blk [slH a'' (ints l ++ [.int .i64 c]), [(p, .live (patC c i))]] [1, 0] (by simpa using q3) (by decide)
      refine .bind (patrol_Step_ok k (by omega) q3' hc (by omega)) ?_
      rintro ⟨_, m2⟩ ⟨b, rfl, hO2⟩
      have hO3 : Own m2 (slH a'' (ints (l ++ [c])) ++ [(p, .live (patC ((c + 8) % 96) (i + 1)))]) := by
        rw [ints_append, show ints [c] = [Value.int .i64 c] from rfl]
        simpa using Own.blk [[(b, .live (arr .i64 8 fun q => (c + q) % 96))], [(p, .live (patC ((c + 8) % 96) (i + 1)))], slH a'' (ints l ++ [.int .i64 c])] [2, 1] (by simpa using hO2) (by decide)
      simp (disch := omega) only [Option.bind_some, Option.map_some, cond_true, cond_false, wrap_i64, tmod_pos, tdiv_pos, inRange_yes, inUpto_yes, isZero_no, decide_eq_true, decide_eq_false, Bool.not_true, Bool.not_false, Int.toNat_natCast, Nat.mul_one, beqI_yes, beqI_no, bneI_yes, bneI_no, isNil_nil, isNil_iface, wr_wr, Option.isNone_none, Option.isNone_some, plus, Nat.zero_add, Nat.add_zero]
      refine hnx (d - 1) _ _ _ _ _ _ _ _ (by omega) ⟨rfl, rfl, rfl, by omega, by omega, by omega, l ++ [c], _, by simp; omega, ?_, by omega, by rw [ints_append]; exact q2, hO3⟩
      intro x hx
      rcases List.mem_append.1 hx with h | h
      · exact hr x h
      · simp at h; subst h; exact hc
    · have hi2 : i = n := by omega
      subst hi2
      clear hnx
      simp (disch := omega) only [Option.bind_some, Option.map_some, cond_true, cond_false, wrap_i64, tmod_pos, tdiv_pos, inRange_yes, inUpto_yes, isZero_no, decide_eq_true, decide_eq_false, Bool.not_true, Bool.not_false, Int.toNat_natCast, Nat.mul_one, beqI_yes, beqI_no, bneI_yes, bneI_no, isNil_nil, isNil_iface, wr_wr, Option.isNone_none, Option.isNone_some, plus, Nat.zero_add, Nat.add_zero, patrol_Cursor_is k (hO.back.at 0 rfl)]
      have hO4 := hO.new (.live (repl 96 [.int .i64 0]))
      generalize hs : m.length = s at *
      rw [show repl 96 [Value.int .i64 0] = arr .i64 96 (fun p => if (p - c) % 96 < 0 then 1 else 0) by
        rw [repl_int]; exact arr_congr fun p _ _ => by rw [if_neg (by omega)]] at hO4 ⊢
      have hO5 : Own (m ++ [.live (arr .i64 96 (fun p => if (p - c) % 96 < 0 then 1 else 0))]) ((p, .live (patC ((c + 0) % 96) i)) :: (s, .live (arr .i64 96 (fun p => if (p - c) % 96 < 0 then 1 else 0))) :: slH a' (ints l)) := by
        rw [show (c + 0) % 96 = c by omega]
        simpa using Own.blk [[(s, .live (arr .i64 96 (fun p => if (p - c) % 96 < 0 then 1 else 0)))], slH a' (ints l), [(p, .live (patC c i))]] [2, 0, 1] (by simpa using hO4) (by decide)
      refine patinalaw15_PatrolRounds_l2_rule k _ _ (fun d x9 x11 x12 x13a x13n x13c x15 x16 x17 m => some ⟨p, 0, none⟩ = x9 ∧ i = x11 ∧ kk = x12 ∧ a' = x13a ∧ n' = x13n ∧ c' = x13c ∧ c = x15 ∧ ⟨s, 0, none⟩ = x16 ∧ 0 ≤ x17 ∧ x17 + d = 12 ∧
        ∃ z, 0 ≤ z ∧ z ≤ i + x17 ∧ Own m ((p, .live (patC ((c + 8 * x17) % 96) z)) :: (s, .live (arr .i64 96 (fun p => if (p - c) % 96 < 8 * x17 then 1 else 0))) :: slH a' (ints l))) ?_ k 12 _ _ _ _ _ _ _ _ 0 _ (by omega) ⟨rfl, rfl, rfl, rfl, rfl, rfl, rfl, rfl, by omega, by omega, i, by omega, by omega, by simpa using hO5⟩
      rintro d nx _ _ _ _ _ _ _ _ j m ⟨rfl, rfl, rfl, rfl, rfl, rfl, rfl, rfl, hj, hd, z, hz, hz2, hO⟩ hnx
      unfold patinalaw15_PatrolRounds_l2_b
      by_cases h2 : j < 12
      · simp (disch := omega) only [Option.bind_some, Option.map_some, cond_true, cond_false, wrap_i64, tmod_pos, tdiv_pos, inRange_yes, inUpto_yes, isZero_no, decide_eq_true, decide_eq_false, Bool.not_true, Bool.not_false, Int.toNat_natCast, Nat.mul_one, beqI_yes, beqI_no, bneI_yes, bneI_no, isNil_nil, isNil_iface, wr_wr, Option.isNone_none, Option.isNone_some, plus, Nat.zero_add, Nat.add_zero]
        refine .bind (patrol_Step_ok k (by omega) hO (by omega) (by omega)) ?_
        rintro ⟨_, m2⟩ ⟨b, rfl, hO2⟩
        refine rl4_ok k hk (b := c) (t := 8 * j) hc (by omega) (hO2.pick [0, 2, 1] 3 (by decide)) fun m3 hO3 => ?_
        simp (disch := omega) only [Option.bind_some, Option.map_some, cond_true, cond_false, wrap_i64, tmod_pos, tdiv_pos, inRange_yes, inUpto_yes, isZero_no, decide_eq_true, decide_eq_false, Bool.not_true, Bool.not_false, Int.toNat_natCast, Nat.mul_one, beqI_yes, beqI_no, bneI_yes, bneI_no, isNil_nil, isNil_iface, wr_wr, Option.isNone_none, Option.isNone_some, plus, Nat.zero_add, Nat.add_zero]
        refine hnx (d - 1) _ _ _ _ _ _ _ _ _ _ (by omega) ⟨rfl, rfl, rfl, rfl, rfl, rfl, rfl, rfl, by omega, by omega, z + 1, by omega, by omega, ?_⟩
        have := hO3.pick [1, 0] 2 (by decide)
        rw [show (c + 8 * (j + 1)) % 96 = ((c + 8 * j) % 96 + 8) % 96 by omega, show 8 * (j + 1) = 8 * j + 8 by omega]
        exact this
      · have : j = 12 := by omega
        subst this
        clear hnx
        have ec : (c + 8 * 12) % 96 = c := by omega
        have l1 := patrol_Cursor_is k (hO.at 0 rfl)
        rw [ec] at l1
        simp (disch := omega) only [Option.bind_some, Option.map_some, cond_true, cond_false, wrap_i64, tmod_pos, tdiv_pos, inRange_yes, inUpto_yes, isZero_no, decide_eq_true, decide_eq_false, Bool.not_true, Bool.not_false, Int.toNat_natCast, Nat.mul_one, beqI_yes, beqI_no, bneI_yes, bneI_no, isNil_nil, isNil_iface, wr_wr, Option.isNone_none, Option.isNone_some, plus, Nat.zero_add, Nat.add_zero, l1]
        refine patinalaw15_PatrolRounds_l6_rule k _ _ (fun d x11 x12 x13a x13n x13c x15 x16 x20 m' => i = x11 ∧ kk = x12 ∧ a' = x13a ∧ n' = x13n ∧ c' = x13c ∧ c = x15 ∧ ⟨s, 0, none⟩ = x16 ∧ 0 ≤ x20 ∧ x20 + d = 96 ∧ m = m') ?_ k 96 _ _ _ _ _ _ _ 0 _ (by omega) ⟨rfl, rfl, rfl, rfl, rfl, rfl, rfl, by omega, by omega, rfl⟩
        rintro d nx _ _ _ _ _ _ _ q _ ⟨rfl, rfl, rfl, rfl, rfl, rfl, rfl, hq, hd, rfl⟩ hnx
        unfold patinalaw15_PatrolRounds_l6_b
        by_cases h3 : q < 96
        · have l2 := arr_ld (sp := none) (x := q) (hO.at 1 rfl) hq (by omega)
          rw [if_pos (show (q - c) % 96 < 8 * 12 by omega)] at l2
          simp (disch := omega) only [Option.bind_some, Option.map_some, cond_true, cond_false, wrap_i64, tmod_pos, tdiv_pos, inRange_yes, inUpto_yes, isZero_no, decide_eq_true, decide_eq_false, Bool.not_true, Bool.not_false, Int.toNat_natCast, Nat.mul_one, beqI_yes, beqI_no, bneI_yes, bneI_no, isNil_nil, isNil_iface, wr_wr, Option.isNone_none, Option.isNone_some, plus, Nat.zero_add, Nat.add_zero, l2]
          exact hnx (d - 1) _ _ _ _ _ _ _ _ _ (by omega) ⟨rfl, rfl, rfl, rfl, rfl, rfl, rfl, by omega, by omega, rfl⟩
        · clear hnx
          simp (disch := omega) only [Option.bind_some, Option.map_some, cond_true, cond_false, wrap_i64, tmod_pos, tdiv_pos, inRange_yes, inUpto_yes, isZero_no, decide_eq_true, decide_eq_false, Bool.not_true, Bool.not_false, Int.toNat_natCast, Nat.mul_one, beqI_yes, beqI_no, bneI_yes, bneI_no, isNil_nil, isNil_iface, wr_wr, Option.isNone_none, Option.isNone_some, plus, Nat.zero_add, Nat.add_zero]
          by_cases h4 : i < kk
          · simp (disch := omega) only [Option.bind_some, Option.map_some, cond_true, cond_false, wrap_i64, tmod_pos, tdiv_pos, inRange_yes, inUpto_yes, isZero_no, decide_eq_true, decide_eq_false, Bool.not_true, Bool.not_false, Int.toNat_natCast, Nat.mul_one, beqI_yes, beqI_no, bneI_yes, bneI_no, isNil_nil, isNil_iface, wr_wr, Option.isNone_none, Option.isNone_some, plus, Nat.zero_add, Nat.add_zero]; exact .some rfl
          · by_cases h5 : i < 1
            · simp (disch := omega) only [Option.bind_some, Option.map_some, cond_true, cond_false, wrap_i64, tmod_pos, tdiv_pos, inRange_yes, inUpto_yes, isZero_no, decide_eq_true, decide_eq_false, Bool.not_true, Bool.not_false, Int.toNat_natCast, Nat.mul_one, beqI_yes, beqI_no, bneI_yes, bneI_no, isNil_nil, isNil_iface, wr_wr, Option.isNone_none, Option.isNone_some, plus, Nat.zero_add, Nat.add_zero]; exact .some rfl
            · by_cases h6 : kk < 1
              · simp (disch := omega) only [Option.bind_some, Option.map_some, cond_true, cond_false, wrap_i64, tmod_pos, tdiv_pos, inRange_yes, inUpto_yes, isZero_no, decide_eq_true, decide_eq_false, Bool.not_true, Bool.not_false, Int.toNat_natCast, Nat.mul_one, beqI_yes, beqI_no, bneI_yes, bneI_no, isNil_nil, isNil_iface, wr_wr, Option.isNone_none, Option.isNone_some, plus, Nat.zero_add, Nat.add_zero]; exact .some rfl
              · simp (disch := omega) only [Option.bind_some, Option.map_some, cond_true, cond_false, wrap_i64, tmod_pos, tdiv_pos, inRange_yes, inUpto_yes, isZero_no, decide_eq_true, decide_eq_false, Bool.not_true, Bool.not_false, Int.toNat_natCast, Nat.mul_one, beqI_yes, beqI_no, bneI_yes, bneI_no, isNil_nil, isNil_iface, wr_wr, Option.isNone_none, Option.isNone_some, plus, Nat.zero_add, Nat.add_zero, patrolNew_is k c _ hc]
                have hO6 := (hO.tail.tail.new (.live (patC c 0))).new (.live (repl 96 [.bool false]))
                rw [show repl 96 [Value.bool false] = barr 96 (fun _ => false) from repl_bool] at hO6 ⊢
                generalize m.length = p2 at *
                generalize (m ++ [MObj.live (patC c 0)]).length = s2 at *
                refine patinalaw15_PatrolRounds_l8_rule k _ (fun d x11 x12 x13a x13n x13c x21 x23 x24 m' => i = x11 ∧ kk = x12 ∧ a' = x13a ∧ n' = x13n ∧ c' = x13c ∧ some ⟨p2, 0, none⟩ = x21 ∧ ⟨s2, 0, none⟩ = x23 ∧ 0 ≤ x24 ∧ x24 ≤ kk ∧ x24 + d = 9 ∧
                  ∃ f c2 z, (0 ≤ c2 ∧ c2 < 96) ∧ 0 ≤ z ∧ z ≤ x24 ∧ Own m' ((p2, .live (patC c2 z)) :: (s2, .live (barr 96 f)) :: slH a' (ints l))) ?_ k 9 _ _ _ _ _ _ _ 0 _ (by omega) ⟨rfl, rfl, rfl, rfl, rfl, rfl, rfl, by omega, by omega, by omega, _, c, 0, hc, by omega, by omega, hO6.pick [1, 0] 2 (by decide)⟩
                rintro d nx _ _ _ _ _ _ _ e m' ⟨rfl, rfl, rfl, rfl, rfl, rfl, rfl, he, hek, hd, f, c2, z, hc2, hz, hz2, hO⟩ hnx
                unfold patinalaw15_PatrolRounds_l8_b
                by_cases h7 : e < kk
                · simp (disch := omega) only [Option.bind_some, Option.map_some, cond_true, cond_false, wrap_i64, tmod_pos, tdiv_pos, inRange_yes, inUpto_yes, isZero_no, decide_eq_true, decide_eq_false, Bool.not_true, Bool.not_false, Int.toNat_natCast, Nat.mul_one, beqI_yes, beqI_no, bneI_yes, bneI_no, isNil_nil, isNil_iface, wr_wr, Option.isNone_none, Option.isNone_some, plus, Nat.zero_add, Nat.add_zero]
                  refine .bind (patrol_Step_ok k (by omega) hO hc2 (by omega)) ?_
                  rintro ⟨_, m2⟩ ⟨b, rfl, hO2⟩
                  refine rl10_ok k hk (hO2.pick [0, 2, 1] 3 (by decide)) fun m3 f hO3 => ?_
                  simp (disch := omega) only [Option.bind_some, Option.map_some, cond_true, cond_false, wrap_i64, tmod_pos, tdiv_pos, inRange_yes, inUpto_yes, isZero_no, decide_eq_true, decide_eq_false, Bool.not_true, Bool.not_false, Int.toNat_natCast, Nat.mul_one, beqI_yes, beqI_no, bneI_yes, bneI_no, isNil_nil, isNil_iface, wr_wr, Option.isNone_none, Option.isNone_some, plus, Nat.zero_add, Nat.add_zero]
                  exact hnx (d - 1) _ _ _ _ _ _ _ _ _ (by omega) ⟨rfl, rfl, rfl, rfl, rfl, rfl, rfl, by omega, by omega, by omega, f, _, z + 1, by omega, by omega, by omega, hO3.pick [1, 0] 2 (by decide)⟩
                · clear hnx
                  have hil : (i - kk).toNat < l.length := by omega
                  obtain ⟨b, off, sp, cs, ha, g1, g2⟩ := hA.vec.get (F := []) (by simpa using hO.tail.tail) (i := (i - kk).toNat) (by omega) (ints_get hil)
                  have hlr := hr _ (List.getElem_mem hil)
                  generalize l[(i - kk).toNat] = c3 at *
                  subst ha
                  simp (disch := omega) only [Option.bind_some, Option.map_some, cond_true, cond_false, wrap_i64, tmod_pos, tdiv_pos, inRange_yes, inUpto_yes, isZero_no, decide_eq_true, decide_eq_false, Bool.not_true, Bool.not_false, Int.toNat_natCast, Nat.mul_one, beqI_yes, beqI_no, bneI_yes, bneI_no, isNil_nil, isNil_iface, wr_wr, Option.isNone_none, Option.isNone_some, plus, Nat.zero_add, Nat.add_zero, ldInt_of g1 g2, patrolNew_is k c3 _ hlr]
                  have hO7 := hO.tail.new (.live (patC c3 0))
                  generalize m'.length = p3 at *
                  refine patinalaw15_PatrolRounds_l12_rule k _ (fun d x21 x23 x27 m' => some ⟨p3, 0, none⟩ = x21 ∧ ⟨s2, 0, none⟩ = x23 ∧ 0 ≤ x27 ∧ x27 + d = 12 ∧
                    ∃ f z, 0 ≤ z ∧ z ≤ x27 ∧ (∀ p, 0 ≤ p → p < 96 → (p - c3) % 96 < 8 * x27 → f p = true) ∧ Own m' [(p3, .live (patC ((c3 + 8 * x27) % 96) z)), (s2, .live (barr 96 f))]) ?_ k 12 _ _ 0 _ (by omega) ⟨rfl, rfl, by omega, by omega, f, 0, by omega, by omega, fun p h1 h2 h3 => by omega, by rw [show (c3 + 8 * 0) % 96 = c3 by omega]; exact Own.front (B := slH (some ⟨b, off, sp⟩) (ints l)) hO7⟩
                  rintro d nx _ _ j m' ⟨rfl, rfl, hj, hd, f, z, hz, hz2, hf, hO⟩ hnx
                  unfold patinalaw15_PatrolRounds_l12_b
                  by_cases h8 : j < 12
                  · simp (disch := omega) only [Option.bind_some, Option.map_some, cond_true, cond_false, wrap_i64, tmod_pos, tdiv_pos, inRange_yes, inUpto_yes, isZero_no, decide_eq_true, decide_eq_false, Bool.not_true, Bool.not_false, Int.toNat_natCast, Nat.mul_one, beqI_yes, beqI_no, bneI_yes, bneI_no, isNil_nil, isNil_iface, wr_wr, Option.isNone_none, Option.isNone_some, plus, Nat.zero_add, Nat.add_zero]
                    refine .bind (patrol_Step_ok k (by omega) hO (by omega) (by omega)) ?_
                    rintro ⟨_, m2⟩ ⟨b, rfl, hO2⟩
                    refine rl14_ok k hk (b := c3) (t := 8 * j) hlr (by omega) hf (hO2.pick [0, 2, 1] 3 (by decide)) fun m3 f hf hO3 => ?_
                    simp (disch := omega) only [Option.bind_some, Option.map_some, cond_true, cond_false, wrap_i64, tmod_pos, tdiv_pos, inRange_yes, inUpto_yes, isZero_no, decide_eq_true, decide_eq_false, Bool.not_true, Bool.not_false, Int.toNat_natCast, Nat.mul_one, beqI_yes, beqI_no, bneI_yes, bneI_no, isNil_nil, isNil_iface, wr_wr, Option.isNone_none, Option.isNone_some, plus, Nat.zero_add, Nat.add_zero]
                    refine hnx (d - 1) _ _ _ _ (by omega) ⟨rfl, rfl, by omega, by omega, f, z + 1, by omega, by omega, fun p h1 h2 h3 => hf p h1 h2 (by omega), ?_⟩
                    rw [show (c3 + 8 * (j + 1)) % 96 = ((c3 + 8 * j) % 96 + 8) % 96 by omega]
                    exact hO3.pick [1, 0] 2 (by decide)
                  · clear hnx
                    have : j = 12 := by omega
                    subst this
                    simp (disch := omega) only [Option.bind_some, Option.map_some, cond_true, cond_false, wrap_i64, tmod_pos, tdiv_pos, inRange_yes, inUpto_yes, isZero_no, decide_eq_true, decide_eq_false, Bool.not_true, Bool.not_false, Int.toNat_natCast, Nat.mul_one, beqI_yes, beqI_no, bneI_yes, bneI_no, isNil_nil, isNil_iface, wr_wr, Option.isNone_none, Option.isNone_some, plus, Nat.zero_add, Nat.add_zero]
                    refine patinalaw15_PatrolRounds_l16_rule k _ _ (fun d x23 x30 m2 => ⟨s2, 0, none⟩ = x23 ∧ 0 ≤ x30 ∧ x30 + d = 96 ∧ m' = m2) ?_ k 96 _ 0 _ (by omega) ⟨rfl, by omega, by omega, rfl⟩
                    rintro d nx _ q _ ⟨rfl, hq, hd, rfl⟩ hnx
                    unfold patinalaw15_PatrolRounds_l16_b
                    by_cases h9 : q < 96
                    · have := hf q hq h9 (by omega)
                      simp (disch := omega) only [Option.bind_some, Option.map_some, cond_true, cond_false, wrap_i64, tmod_pos, tdiv_pos, inRange_yes, inUpto_yes, isZero_no, decide_eq_true, decide_eq_false, Bool.not_true, Bool.not_false, Int.toNat_natCast, Nat.mul_one, beqI_yes, beqI_no, bneI_yes, bneI_no, isNil_nil, isNil_iface, wr_wr, Option.isNone_none, Option.isNone_some, plus, Nat.zero_add, Nat.add_zero, barr_ld (hO.at 1 rfl), this]
                      exact hnx (d - 1) _ _ _ (by omega) ⟨rfl, by omega, by omega, rfl⟩
                    · simp (disch := omega) only [Option.bind_some, Option.map_some, cond_true, cond_false, wrap_i64, tmod_pos, tdiv_pos, inRange_yes, inUpto_yes, isZero_no, decide_eq_true, decide_eq_false, Bool.not_true, Bool.not_false, Int.toNat_natCast, Nat.mul_one, beqI_yes, beqI_no, bneI_yes, bneI_no, isNil_nil, isNil_iface, wr_wr, Option.isNone_none, Option.isNone_some, plus, Nat.zero_add, Nat.add_zero]
                      exact .some rfl
  obtain ⟨⟨r, m'⟩, h1, h2⟩ := key
  exact ⟨m', by rw [h1]; simp only at h2; rw [h2]⟩
end Go.Proofs.Ytnilidpafijdlab
