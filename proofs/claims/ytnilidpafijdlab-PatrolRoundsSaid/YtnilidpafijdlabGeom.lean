/- What the geometry's functions do. -/
import Derived.Test.YtnilidpafijdlabFgeom
import Derived.Test.YtnilidpafijdlabErr
set_option linter.unusedVariables false
set_option linter.unusedSimpArgs false
namespace Go.Proofs.Ytnilidpafijdlab
open Go.Mx
def holdsB (place of : Int) : Bool := decide (0 ≤ place ∧ place < 96 ∧ 0 ≤ of ∧ of ≤ 24)
def mayB' (place of : Int) : Bool := decide (of = 24 ∨ place % 8 < 6)
theorem geom_Parts_is (k : Nat) (p : Int) (m : Mem) : geom_Parts k p m = some (if 0 ≤ p ∧ p < 96 then (p / 8, p % 8, .nilIface, m) else (0, 0, errC 1, m)) := by
  unfold geom_Parts geom_is
  by_cases h : 0 ≤ p ∧ p < 96
  · rw [if_pos h]; simp (disch := omega) only [Option.bind_some, Option.map_some, cond_true, cond_false, wrap_i64, tmod_pos, tdiv_pos, inRange_yes, inUpto_yes, isZero_no, decide_eq_true, decide_eq_false, Bool.not_true, Bool.not_false, Int.toNat_natCast, Nat.mul_one, beqI_yes, beqI_no, bneI_yes, bneI_no, isNil_nil, isNil_iface, wr_wr, Option.isNone_none, Option.isNone_some, plus, Nat.zero_add, Nat.add_zero]
  · rw [if_neg h]
    by_cases h2 : p ≥ 0
    · simp (disch := omega) only [Option.bind_some, Option.map_some, cond_true, cond_false, wrap_i64, tmod_pos, tdiv_pos, inRange_yes, inUpto_yes, isZero_no, decide_eq_true, decide_eq_false, Bool.not_true, Bool.not_false, Int.toNat_natCast, Nat.mul_one, beqI_yes, beqI_no, bneI_yes, bneI_no, isNil_nil, isNil_iface, wr_wr, Option.isNone_none, Option.isNone_some, plus, Nat.zero_add, Nat.add_zero]; rfl
    · simp (disch := omega) only [Option.bind_some, Option.map_some, cond_true, cond_false, wrap_i64, tmod_pos, tdiv_pos, inRange_yes, inUpto_yes, isZero_no, decide_eq_true, decide_eq_false, Bool.not_true, Bool.not_false, Int.toNat_natCast, Nat.mul_one, beqI_yes, beqI_no, bneI_yes, bneI_no, isNil_nil, isNil_iface, wr_wr, Option.isNone_none, Option.isNone_some, plus, Nat.zero_add, Nat.add_zero]; rfl
end Go.Proofs.Ytnilidpafijdlab
