/- The document's sums of a word are the code's. -/
import Derived.Test.YtmfmoanjecjeeaaRsR
import Derived.Test.YtmfmoanjecjeeaaRsA
import Derived.Test.YtmfmoanjecjeeaaFpatinaref02
set_option linter.unusedVariables false
set_option linter.unusedSectionVars false
set_option linter.unusedSimpArgs false
namespace Go.Proofs.Ytmfmoanjecjeeaa
open Go.Mx

theorem refEval_is (k : Nat) (hk : 1000 < k) {m : Mem} {a : Option Addr} {n c : Nat} {w : Nat → GF} (hw : Src m a n w) (hn : n < 1000) (x : GF) : patinaref01_Eval k a n c (x.v : Int) m = some (((GF.hor w x n).v : Int), m) := by
  have key : Ok (patinaref01_Eval k a n c (x.v : Int) m) fun r => r = (((GF.hor w x n).v : Int), m) := by
    unfold patinaref01_Eval
    have h1 : (1 : Int) = (((1 : GF).v : Nat) : Int) := rfl
    have h0 : (0 : Int) = (((0 : GF).v : Nat) : Int) := rfl
    rw [wrap_i64 (by omega) (by omega)]
    refine patinaref01_Eval_l0_rule k _ (fun r x0a x0n x0c x1 x5 x6 x7 m' => a = x0a ∧ n = x0n ∧ c = x0c ∧ (x.v : Int) = x1 ∧ m = m' ∧ ∃ (S P : GF), (S.v : Int) = x5 ∧ (P.v : Int) = x6 ∧ x7 = (r : Int) - 1 ∧ r ≤ n ∧ GF.hor w x n = GF.hor w x r * P + S) ?_ k n _ _ _ _ _ _ _ _ (by omega)
      ⟨rfl, rfl, rfl, rfl, rfl, 0, 1, rfl, rfl, rfl, Nat.le_refl _, by rw [GF.mul_one, GF.add_zero]⟩
    rintro r nx _ _ _ _ _ _ _ _ ⟨rfl, rfl, rfl, rfl, rfl, S, P, rfl, rfl, rfl, hr, he⟩ hnx
    unfold patinaref01_Eval_l0_b
    cases r with
    | zero =>
      have : decide (((0 : Nat) : Int) - 1 ≥ 0) = false := rfl
      rw [this, cond_false, he]
      refine .some ?_
      show ((S.v : Int), m) = _
      rw [show GF.hor w x 0 = 0 from rfl, GF.zero_mul, GF.zero_add]
    | succ r =>
      have hi : (((r + 1 : Nat) : Int) - 1) = (r : Int) := by omega
      rw [hi]
      obtain ⟨ad, rfl, e1⟩ := hw.ld (i := r) (by omega)
      unfold plus at e1
      have hd : decide ((r : Int) ≥ 0) = true := decide_eq_true (by omega)
      simp (disch := omega) only [Option.bind_some, Option.map_some, cond_true, cond_false, wrap_i64, tmod_pos, tdiv_pos, inRange_yes, inUpto_yes, isZero_no, decide_eq_true, decide_eq_false, Bool.not_true, Bool.not_false, Int.toNat_natCast, Nat.mul_one, beqI_yes, beqI_no, bneI_yes, bneI_no, isNil_nil, isNil_iface, wr_wr, Option.isNone_none, Option.isNone_some, plus, Nat.zero_add, Nat.add_zero, hd, e1, refMul_is k hk, xor_v]
      refine hnx r _ _ _ _ _ _ _ _ (by omega) ⟨rfl, rfl, rfl, rfl, rfl, _, _, rfl, rfl, rfl, by omega, ?_⟩
      rw [he, GF.hor]
      simp only [GF.mul_add, GF.add_mul, GF.mul_assoc, GF.mul_comm, GF.mul_left_comm, GF.add_assoc, GF.add_comm, GF.add_left_comm]
  obtain ⟨r, h1, rfl⟩ := key
  exact h1

theorem refSyn_ok (k : Nat) (hk : 1000 < k) {m : Mem} {a : Option Addr} {c : Nat} {w : Nat → GF} (hw : Src m a 64 w) :
    Ok (patinaref02_Syndromes k a 64 c m) fun r => ∃ a', r.1 = ⟨a', 6, 6⟩ ∧ Ab m r.2 a' 6 (GF.syn w) := by
  unfold patinaref02_Syndromes
  refine patinaref02_Syndromes_l0_rule k _ (fun r x0a x0n x0c x3a x3n x3c x4 x5 m' => a = x0a ∧ 64 = x0n ∧ c = x0c ∧ ∃ j : Nat, j = x3n ∧ j = x3c ∧ ((GF.pw j).v : Int) = x4 ∧ x5 = j ∧ j + r = 6 ∧ Ab m m' x3a j (GF.syn w)) ?_ k 6 _ _ _ _ _ _ _ _ _ (by omega)
    ⟨rfl, rfl, rfl, 0, rfl, rfl, rfl, rfl, by omega, Ab.nil _ _⟩
  rintro r nx _ _ _ x3a _ _ _ _ m' ⟨rfl, rfl, rfl, j, rfl, rfl, rfl, rfl, hr, hA⟩ hnx
  unfold patinaref02_Syndromes_l0_b
  by_cases hj : (j : Int) < 6
  · have e1 := refEval_is k hk (c := c) (hw.grow hA.1) (by omega) (GF.pw j)
    rw [GF.syn_hor] at e1
    obtain ⟨a', m2, e2, hA2⟩ := hA.one (GF.syn w j) (by unfold most; omega)
    have e3 := refMul_is k hk (GF.pw j) (GF.pw 1) m2
    rw [GF.pw_pw] at e3
    have h2 : ((GF.pw 1).v : Int) = 2 := rfl
    rw [h2] at e3
    simp (disch := omega) only [Option.bind_some, Option.map_some, cond_true, cond_false, wrap_i64, tmod_pos, tdiv_pos, inRange_yes, inUpto_yes, isZero_no, decide_eq_true, decide_eq_false, Bool.not_true, Bool.not_false, Int.toNat_natCast, Nat.mul_one, beqI_yes, beqI_no, bneI_yes, bneI_no, isNil_nil, isNil_iface, wr_wr, Option.isNone_none, Option.isNone_some, plus, Nat.zero_add, Nat.add_zero, e1, rdSl_new, e2, e3]
    exact hnx (r - 1) _ _ _ _ _ _ _ _ _ (by omega) ⟨rfl, rfl, rfl, j + 1, rfl, rfl, rfl, by omega, by omega, hA2.congr fun i hi => by
      unfold put
      by_cases h3 : i = j
      · rw [if_pos h3, h3]
      · rw [if_neg h3]⟩
  · obtain rfl : j = 6 := by omega
    simp (disch := omega) only [Option.bind_some, Option.map_some, cond_true, cond_false, wrap_i64, tmod_pos, tdiv_pos, inRange_yes, inUpto_yes, isZero_no, decide_eq_true, decide_eq_false, Bool.not_true, Bool.not_false, Int.toNat_natCast, Nat.mul_one, beqI_yes, beqI_no, bneI_yes, bneI_no, isNil_nil, isNil_iface, wr_wr, Option.isNone_none, Option.isNone_some, plus, Nat.zero_add, Nat.add_zero]
    exact .some ⟨_, rfl, hA⟩
end Go.Proofs.Ytmfmoanjecjeeaa
