/- The plain law of PointWrites: any checkpoint is written as its bytes, or refused. -/
import Derived.Test.YtnilidpafijdlabPointWr
import Derived.Test.YtnilidpafijdlabPointCk
import Derived.Test.YtnilidpafijdlabFLPointWrites
set_option linter.unusedVariables false
set_option linter.unusedSectionVars false
set_option linter.unusedSimpArgs false
namespace Go.Proofs.Ytnilidpafijdlab
open Go.Mx

theorem same09_is (k : Nat) {a a' : Option Addr} {n c c' : Nat} {f : Int → Int} {m : Mem} (h1 : rdSl m a n 1 = some (arr .u8 n f)) (h2 : rdSl m a' n 1 = some (arr .u8 n f)) : patinaref09_Same k a n c a' n c' m = some (true, m) := by
  obtain ⟨s, hs⟩ := str_arr n f
  unfold patinaref09_Same
  simp only [h1, h2, hs, Option.bind_some, strEq_self]
theorem up09_ok (k : Nat) (o : MObj) : ∃ m, patinalaw09_up (k + 200) [o] = some (true, m) ∧ m[0]? = some o := by
  have h : (patinalaw09_up (k + 200) [o]).map (fun r => (r.1, r.2[0]?)) = some (true, some o) := by kernel_rfl
  obtain ⟨⟨b, m⟩, h1, h2⟩ := Option.map_eq_some_iff.1 h
  simp only [Prod.mk.injEq] at h2
  exact ⟨m, by rw [h1, h2.1], h2.2⟩

theorem pointWrites_run (l : List Value) (fl : FlatOk ckL l) : ∃ k m', patinalaw09_PointWrites k l [] = some (true, m') := by
  have hlc := ckOf_is fl
  generalize ckOf l = σ at hlc
  subst hlc
  obtain ⟨m1, e1, e2⟩ := up09_ok 200 (.live (ckC σ))
  have hk : 200 < 200 + 200 := by omega
  generalize 200 + 200 = k at e1 hk
  refine ⟨k, ?_⟩
  have hl : ∀ τ : Ck, Nat.beq (ckC τ).length 62 = true := by intro τ; rw [ckC_len]; rfl
  have key : Ok (patinalaw09_PointWrites k (ckC σ) []) fun r => r.1 = true := by
    unfold patinalaw09_PointWrites
    have hO0 : Own m1 [(0, .live (ckC σ))] := ⟨by simp, by simp [e2]⟩
    have ld : ∀ {m : Mem} {F : Heap}, Own m ((0, .live (ckC σ)) :: F) → ldCells m ⟨0, 0, none⟩ 62 = some (ckC σ) := by
      intro m F h
      have e4 := ldCells_of (n := 62) (sp := none) (h.at 0 rfl) (off := 0) (by simp)
      rwa [List.drop_zero, List.take_of_length_le (by simp)] at e4
    have e4 := ld hO0
    have e5 : [] ++ [MObj.live (ckC σ)] = [MObj.live (ckC σ)] := rfl
    have e6 : ([] : Mem).length = 0 := rfl
    simp only [e5, e6]
    simp (disch := omega) only [Option.bind_some, Option.map_some, cond_true, cond_false, wrap_i64, tmod_pos, tdiv_pos, inRange_yes, inUpto_yes, isZero_no, decide_eq_true, decide_eq_false, Bool.not_true, Bool.not_false, Int.toNat_natCast, Nat.mul_one, beqI_yes, beqI_no, bneI_yes, bneI_no, isNil_nil, isNil_iface, wr_wr, Option.isNone_none, Option.isNone_some, plus, Nat.zero_add, Nat.add_zero, hl, e1, e4]
    refine .bind (Write_ok k hk hO0) ?_
    rintro ⟨s1, s2, m3⟩ ⟨h1, h2⟩
    by_cases ht : Told σ
    · obtain ⟨b, q1, q2, hO1⟩ := h1 ht
      simp only at q1 q2 hO1
      subst q1 q2
      have e7 := ld (hO1.pick [1, 0] 2 (by decide))
      simp (disch := omega) only [Option.bind_some, Option.map_some, cond_true, cond_false, wrap_i64, tmod_pos, tdiv_pos, inRange_yes, inUpto_yes, isZero_no, decide_eq_true, decide_eq_false, Bool.not_true, Bool.not_false, Int.toNat_natCast, Nat.mul_one, beqI_yes, beqI_no, bneI_yes, bneI_no, isNil_nil, isNil_iface, wr_wr, Option.isNone_none, Option.isNone_some, plus, Nat.zero_add, Nat.add_zero, e7]
      refine .bind (rWrite_ok k hk hO1) ?_
      rintro ⟨t1, t2, m4⟩ ⟨g1, _⟩
      obtain ⟨a, q1, q2, hA, hO2⟩ := g1 ht
      simp only at q1 q2 hA hO2
      subst q1 q2
      have r1 := rdSl_all (sp := none) (n := 174) (z := 1) (hO2.back.at 0 rfl) (by simp)
      have r2 := hA.vec.rd hO2
      have c0 := fun m => code_is k 0 m (by omega)
      rw [errC_zero] at c0
      simp (disch := omega) only [Option.bind_some, Option.map_some, cond_true, cond_false, wrap_i64, tmod_pos, tdiv_pos, inRange_yes, inUpto_yes, isZero_no, decide_eq_true, decide_eq_false, Bool.not_true, Bool.not_false, Int.toNat_natCast, Nat.mul_one, beqI_yes, beqI_no, bneI_yes, bneI_no, isNil_nil, isNil_iface, wr_wr, Option.isNone_none, Option.isNone_some, plus, Nat.zero_add, Nat.add_zero, same09_is k r1 r2, c0]
      -- what was answered is the host's: it is written over
      have hO3 : Own m4 ((b, .live (arr .u8 174 (enc σ))) :: (0, .live (ckC σ)) :: slH a (arr .u8 174 (enc σ))) := by
        have := Own.blk (m := m4) [slH a (arr .u8 174 (enc σ)), [(b, .live (arr .u8 174 (enc σ)))], [(0, .live (ckC σ))]] [1, 2, 0] (by simpa using hO2) (by decide)
        simpa using this
      refine patinalaw09_PointWrites_l0_rule k _ (fun d x1 x3 x4a x4n x4c x6a x6n x6c x7 x9 m' => (⟨0, 0, none⟩ : Addr) = x1 ∧ true = x3 ∧ (some ⟨b, 0, none⟩ : Option Addr) = x4a ∧ 174 = x4n ∧ 174 = x4c ∧ a = x6a ∧ 174 = x6n ∧ 174 = x6c ∧ 0 = x7 ∧ 0 ≤ x9 ∧ x9 + d = 174 ∧
        ∃ f : Int → Int, Own m' ((b, .live (arr .u8 174 f)) :: (0, .live (ckC σ)) :: slH a (arr .u8 174 (enc σ)))) ?_ k 174 _ _ _ _ _ _ _ _ _ 0 _ (by omega) ⟨rfl, rfl, rfl, rfl, rfl, rfl, rfl, rfl, rfl, by omega, by omega, _, hO3⟩
      rintro d nx _ _ _ _ _ _ _ _ _ i m' ⟨rfl, rfl, rfl, rfl, rfl, rfl, rfl, rfl, rfl, hi, hd, f, hO⟩ hnx
      unfold patinalaw09_PointWrites_l0_b
      by_cases h3 : i < 174
      · have e := arr_st (sp := none) (v := 165) (hO.at 0 rfl) hi h3
        simp (disch := omega) only [Option.bind_some, Option.map_some, cond_true, cond_false, wrap_i64, tmod_pos, tdiv_pos, inRange_yes, inUpto_yes, isZero_no, decide_eq_true, decide_eq_false, Bool.not_true, Bool.not_false, Int.toNat_natCast, Nat.mul_one, beqI_yes, beqI_no, bneI_yes, bneI_no, isNil_nil, isNil_iface, wr_wr, Option.isNone_none, Option.isNone_some, plus, Nat.zero_add, Nat.add_zero, e]
        exact hnx (d - 1) _ _ _ _ _ _ _ _ _ _ _ (by omega) ⟨rfl, rfl, rfl, rfl, rfl, rfl, rfl, rfl, rfl, by omega, by omega, _, hO.wr 0 rfl _⟩
      · clear hnx
        have e8 := ld (hO.pick [1, 0] 2 (by decide))
        simp (disch := omega) only [Option.bind_some, Option.map_some, cond_true, cond_false, wrap_i64, tmod_pos, tdiv_pos, inRange_yes, inUpto_yes, isZero_no, decide_eq_true, decide_eq_false, Bool.not_true, Bool.not_false, Int.toNat_natCast, Nat.mul_one, beqI_yes, beqI_no, bneI_yes, bneI_no, isNil_nil, isNil_iface, wr_wr, Option.isNone_none, Option.isNone_some, plus, Nat.zero_add, Nat.add_zero, e8]
        refine .bind (Write_ok k hk hO) ?_
        rintro ⟨s1, s2, m5⟩ ⟨h5, _⟩
        obtain ⟨b', q1, q2, hO5⟩ := h5 ht
        simp only at q1 q2 hO5
        subst q1 q2
        have r3 := rdSl_all (sp := none) (n := 174) (z := 1) (hO5.at 0 rfl) (by simp)
        have r4 := hA.vec.rd (F := []) (by simpa using hO5.tail.tail.tail)
        simp (disch := omega) only [Option.bind_some, Option.map_some, cond_true, cond_false, wrap_i64, tmod_pos, tdiv_pos, inRange_yes, inUpto_yes, isZero_no, decide_eq_true, decide_eq_false, Bool.not_true, Bool.not_false, Int.toNat_natCast, Nat.mul_one, beqI_yes, beqI_no, bneI_yes, bneI_no, isNil_nil, isNil_iface, wr_wr, Option.isNone_none, Option.isNone_some, plus, Nat.zero_add, Nat.add_zero, same09_is k r3 r4, c0, beq_self_eq_true]
        exact .some rfl
    · obtain ⟨q1, q2, hO1⟩ := h2 ht
      simp only at q1 q2 hO1
      subst q1 q2
      have e7 := ld hO1
      simp (disch := omega) only [Option.bind_some, Option.map_some, cond_true, cond_false, wrap_i64, tmod_pos, tdiv_pos, inRange_yes, inUpto_yes, isZero_no, decide_eq_true, decide_eq_false, Bool.not_true, Bool.not_false, Int.toNat_natCast, Nat.mul_one, beqI_yes, beqI_no, bneI_yes, bneI_no, isNil_nil, isNil_iface, wr_wr, Option.isNone_none, Option.isNone_some, plus, Nat.zero_add, Nat.add_zero, e7]
      refine .bind (rWrite_ok k hk hO1) ?_
      rintro ⟨t1, t2, m4⟩ ⟨_, g1⟩
      obtain ⟨q1, q2, hO2⟩ := g1 ht
      simp only at q1 q2 hO2
      subst q1 q2
      have c1 := fun m => code_is k 1 m (by omega)
      have e9 : ∀ m : Mem, patinaref09_Same k none 0 0 none 0 0 m = some (true, m) := fun m => same09_is (f := fun _ => 0) k rfl rfl
      simp (disch := omega) only [Option.bind_some, Option.map_some, cond_true, cond_false, wrap_i64, tmod_pos, tdiv_pos, inRange_yes, inUpto_yes, isZero_no, decide_eq_true, decide_eq_false, Bool.not_true, Bool.not_false, Int.toNat_natCast, Nat.mul_one, beqI_yes, beqI_no, bneI_yes, bneI_no, isNil_nil, isNil_iface, wr_wr, Option.isNone_none, Option.isNone_some, plus, Nat.zero_add, Nat.add_zero, e9, c1]
      obtain ⟨k, rfl⟩ : ∃ k', k = k' + 1 := ⟨k - 1, by omega⟩
      unfold patinalaw09_PointWrites_l0 patinalaw09_PointWrites_l0_b
      have e8 := ld hO2
      simp (disch := omega) only [Option.bind_some, Option.map_some, cond_true, cond_false, wrap_i64, tmod_pos, tdiv_pos, inRange_yes, inUpto_yes, isZero_no, decide_eq_true, decide_eq_false, Bool.not_true, Bool.not_false, Int.toNat_natCast, Nat.mul_one, beqI_yes, beqI_no, bneI_yes, bneI_no, isNil_nil, isNil_iface, wr_wr, Option.isNone_none, Option.isNone_some, plus, Nat.zero_add, Nat.add_zero, e8]
      refine .bind (Write_ok (k + 1) hk hO2) ?_
      rintro ⟨s1, s2, m5⟩ ⟨_, h5⟩
      obtain ⟨q1, q2, hO5⟩ := h5 ht
      simp only at q1 q2 hO5
      subst q1 q2
      simp (disch := omega) only [Option.bind_some, Option.map_some, cond_true, cond_false, wrap_i64, tmod_pos, tdiv_pos, inRange_yes, inUpto_yes, isZero_no, decide_eq_true, decide_eq_false, Bool.not_true, Bool.not_false, Int.toNat_natCast, Nat.mul_one, beqI_yes, beqI_no, bneI_yes, bneI_no, isNil_nil, isNil_iface, wr_wr, Option.isNone_none, Option.isNone_some, plus, Nat.zero_add, Nat.add_zero, e9, c1, beq_self_eq_true]
      exact .some rfl
  obtain ⟨⟨r, m'⟩, h1, h2⟩ := key
  exact ⟨m', by rw [h1]; simp only at h2; rw [h2]⟩
end Go.Proofs.Ytnilidpafijdlab
