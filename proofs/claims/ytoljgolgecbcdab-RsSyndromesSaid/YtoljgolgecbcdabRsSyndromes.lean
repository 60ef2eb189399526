/- RsSyndromes: Syndromes of any bytes. For every list of bytes. -/
import Derived.Test.YtoljgolgecbcdabRsL
import Derived.Test.YtoljgolgecbcdabRsQ
import Derived.Test.YtoljgolgecbcdabFLRsSyndromes
set_option linter.unusedVariables false
set_option linter.unusedSectionVars false
set_option linter.unusedSimpArgs false
namespace Go.Proofs.Ytoljgolgecbcdab
open Go.Mx

theorem rsSyndromes_run (o0 : MObj) (a0 : Option Addr) (n0 c0 : Nat) (cs0 : List Value) (hh0 : Holds o0 0 a0 n0 [.int .u8] cs0) (hc0 : n0 ≤ c0) (y0 : n0 * 1 ≤ 140737488351232) :
    ∃ k m', patinalaw02_RsSyndromes k a0 n0 c0 [o0] = some (true, m') := by
  obtain ⟨w, hw⟩ := holds_src (m := [o0]) hh0 rfl
  obtain ⟨k, hk⟩ : ∃ k, 1000 < k := ⟨1001, by omega⟩
  refine ⟨k, ?_⟩
  have key : Ok (patinalaw02_RsSyndromes k a0 n0 c0 [o0]) fun r => r.1 = true := by
    unfold patinalaw02_RsSyndromes
    refine .bind (shown_ok k hk _) ?_
    rintro ⟨_, m1⟩ ⟨rfl, hg1⟩
    refine .bind (rsNew_ok k hk m1) ?_
    rintro ⟨_, m2⟩ ⟨c, rfl, hg2, _, hC⟩
    simp only at hg1 hg2 hC ⊢
    have hG := hg1.trans hg2
    simp (disch := omega) only [Option.bind_some, Option.map_some, cond_true, cond_false, wrap_i64, tmod_pos, tdiv_pos, inRange_yes, inUpto_yes, isZero_no, decide_eq_true, decide_eq_false, Bool.not_true, Bool.not_false, Int.toNat_natCast, Nat.mul_one, beqI_yes, beqI_no, bneI_yes, bneI_no, isNil_nil, isNil_iface, wr_wr, Option.isNone_none, Option.isNone_some, plus, Nat.zero_add, Nat.add_zero]
    by_cases hn : n0 = 64
    · subst hn
      refine .bind (synd_ok k hk hC (cc := c0) (hw.grow hG)) ?_
      rintro ⟨_, _, m3⟩ ⟨d3, rfl, rfl, hg3, _, h3⟩
      simp only at hg3 h3 ⊢
      have n64 : (((64 : Nat) : Int) != 64) = false := rfl
      simp (disch := omega) only [Option.bind_some, Option.map_some, cond_true, cond_false, wrap_i64, tmod_pos, tdiv_pos, inRange_yes, inUpto_yes, isZero_no, decide_eq_true, decide_eq_false, Bool.not_true, Bool.not_false, Int.toNat_natCast, Nat.mul_one, beqI_yes, beqI_no, bneI_yes, bneI_no, isNil_nil, isNil_iface, wr_wr, Option.isNone_none, Option.isNone_some, plus, Nat.zero_add, Nat.add_zero, n64]
      refine .bind (refSyn_ok k hk (c := c0) (hw.grow (hG.trans hg3))) ?_
      rintro ⟨_, m4⟩ ⟨a4, rfl, hA⟩
      simp only at hA ⊢
      obtain ⟨z, e8, e9⟩ := same_is k (c := 6) (c' := 6) (Src.of (sp := some 1) (hA.1.get h3)) hA.src (by omega) (by omega)
      have hz : z = true := e9.2 ⟨rfl, fun i hi => rfl⟩
      subst hz
      simp (disch := omega) only [Option.bind_some, Option.map_some, cond_true, cond_false, wrap_i64, tmod_pos, tdiv_pos, inRange_yes, inUpto_yes, isZero_no, decide_eq_true, decide_eq_false, Bool.not_true, Bool.not_false, Int.toNat_natCast, Nat.mul_one, beqI_yes, beqI_no, bneI_yes, bneI_no, isNil_nil, isNil_iface, wr_wr, Option.isNone_none, Option.isNone_some, plus, Nat.zero_add, Nat.add_zero, e8]
      exact .some rfl
    · have e1 := synd_no k hk hC (a := a0) (cc := c0) hn
      have n64 : (((n0 : Nat) : Int) != 64) = true := bneI_yes (by omega)
      have e10 : ifEq tt (errC 1) (.iface ty_api_Code (.int .i64 1)) = some true := by rw [ifEq_errC 1 1 (by omega)]; rfl
      have z0 : (((0 : Nat) : Int) == 0) = true := rfl
      simp (disch := omega) only [Option.bind_some, Option.map_some, cond_true, cond_false, wrap_i64, tmod_pos, tdiv_pos, inRange_yes, inUpto_yes, isZero_no, decide_eq_true, decide_eq_false, Bool.not_true, Bool.not_false, Int.toNat_natCast, Nat.mul_one, beqI_yes, beqI_no, bneI_yes, bneI_no, isNil_nil, isNil_iface, wr_wr, Option.isNone_none, Option.isNone_some, plus, Nat.zero_add, Nat.add_zero, e1, n64, e10, z0]
      exact .some rfl
  obtain ⟨⟨r, m'⟩, h1, h2⟩ := key
  exact ⟨m', by rw [h1]; simp only at h2; rw [h2]⟩
end Go.Proofs.Ytoljgolgecbcdab
