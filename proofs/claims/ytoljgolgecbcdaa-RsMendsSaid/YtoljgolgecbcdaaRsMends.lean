/- RsMends: every message, every damage: at most two symbols are mended and counted; three or four are told; what is answered else is within two of the word. For every list of bytes and every list of turns. -/
import Derived.Test.YtoljgolgecbcdaaRsM
import Derived.Test.YtoljgolgecbcdaaFLRsMends
set_option linter.unusedVariables false
set_option linter.unusedSectionVars false
set_option linter.unusedSimpArgs false
namespace Go.Proofs.Ytoljgolgecbcdaa
open Go.Mx

theorem rsMends_run (o0 o1 : MObj) (a0 : Option Addr) (n0 c0 : Nat) (cs0 : List Value) (a1 : Option Addr) (n1 c1 : Nat) (cs1 : List Value) (hh0 : Holds o0 0 a0 n0 [.int .u8] cs0) (hc0 : n0 ≤ c0) (y0 : n0 * 1 ≤ 140737488351232) (hh1 : Holds o1 1 a1 n1 [.int .i64, .int .u8] cs1) (hc1 : n1 ≤ c1) (y1 : n1 * 16 ≤ 140737488351232) :
    ∃ k m', patinalaw02_RsMends k a0 n0 c0 a1 n1 c1 [o0, o1] = some (true, m') := by
  obtain ⟨w0, hw0⟩ := holds_src (m := [o0, o1]) hh0 rfl
  obtain ⟨k, hk, hk2⟩ : ∃ k, 1000 < k ∧ n1 < k := ⟨n1 + 1001, by omega, by omega⟩
  refine ⟨k, ?_⟩
  have key : Ok (patinalaw02_RsMends k a0 n0 c0 a1 n1 c1 [o0, o1]) fun r => r.1 = true := by
    unfold patinalaw02_RsMends
    refine .bind (shown_ok k hk _) ?_
    rintro ⟨_, m1⟩ ⟨rfl, hg1⟩
    refine .bind (rsNew_ok k hk m1) ?_
    rintro ⟨_, m2⟩ ⟨c, rfl, hg2, _, hC⟩
    simp only at hg1 hg2 hC ⊢
    have hG := hg1.trans hg2
    have e1 := message_is k hk (c := c0) (hw0.grow hG)
    generalize hX : pad n0 w0 = x at *
    have hg3 : Gr m2 (m2 ++ [.live (bys 58 x)]) := Gr.app _ _
    have hl3 := get_last (m := m2) (o := .live (bys 58 x)) rfl
    simp (disch := omega) only [Option.bind_some, Option.map_some, cond_true, cond_false, wrap_i64, tmod_pos, tdiv_pos, inRange_yes, inUpto_yes, isZero_no, decide_eq_true, decide_eq_false, Bool.not_true, Bool.not_false, Int.toNat_natCast, Nat.mul_one, beqI_yes, beqI_no, bneI_yes, bneI_no, isNil_nil, isNil_iface, wr_wr, Option.isNone_none, Option.isNone_some, plus, Nat.zero_add, Nat.add_zero, e1]
    refine .bind (encode_ok k hk (hC.grow hg3) (cc := 58) (Src.of (sp := none) hl3)) ?_
    rintro ⟨_, _, m4⟩ ⟨d4, rfl, rfl, hg4, _, h4⟩
    simp only at hg4 h4 ⊢
    have n64 : (((64 : Nat) : Int) != 64) = false := rfl
    have n64' : (((64 : Nat) : Int) == 64) = true := rfl
    have hG4 := hG.trans (hg3.trans hg4)
    simp (disch := omega) only [Option.bind_some, Option.map_some, cond_true, cond_false, wrap_i64, tmod_pos, tdiv_pos, inRange_yes, inUpto_yes, isZero_no, decide_eq_true, decide_eq_false, Bool.not_true, Bool.not_false, Int.toNat_natCast, Nat.mul_one, beqI_yes, beqI_no, bneI_yes, bneI_no, isNil_nil, isNil_iface, wr_wr, Option.isNone_none, Option.isNone_some, plus, Nat.zero_add, Nat.add_zero, n64]
    refine .bind (damage_ok k hk (Src.of (sp := none) h4) (cc := 64) hh1 (hG4.get rfl) (by omega) y1) ?_
    rintro ⟨_, _, m5⟩ ⟨d5, y, rfl, rfl, hg5, _, h5⟩
    simp only at hg5 h5 ⊢
    have hC5 := hC.grow ((hg3.trans hg4).trans hg5)
    refine .bind (decode_ok k hk hC5 (cc := 64) (Src.of (sp := some 1) h5)) ?_
    have hcode := GF.cw_code gC_gen x
    rcases GF.dec_spec y with ⟨u, n, q1, p2, p3, p4⟩ | ⟨q1, hfar⟩
    · rintro ⟨_, _, _, m6⟩ ⟨hg6, ⟨u', n', d6, q2, rfl, rfl, rfl, q3, q4⟩ | ⟨q2, _⟩⟩
      rotate_left
      · rw [q1] at q2; cases q2
      rw [q1] at q2
      simp only [Option.some.injEq, Prod.mk.injEq] at q2
      obtain ⟨rfl, rfl⟩ := q2
      simp only at hg6 q4 ⊢
      have htri := GF.df_tri u y (GF.cw gC x)
      have hcm := GF.df_comm u y
      by_cases h2 : GF.df y (GF.cw gC x) ≤ 2
      · have hu := p2.near hcode (by omega)
        have hn : GF.df y (GF.cw gC x) = n := by
          rw [← p3]
          exact GF.wt_congr fun i hi => by rw [hu i hi]
        rw [decide_eq_true (show (GF.df y (GF.cw gC x) : Int) ≤ 2 by omega), cond_true]
        obtain ⟨z, e8, e9⟩ := same_is k (c := 58) (c' := 58) (Src.take (sp := none) q4 (l := 58) (by omega)) (Src.of (sp := none) (hg6.get (hg5.get (hg4.get hl3)))) (by omega) (by omega)
        have hz : z = true := e9.2 ⟨rfl, fun i hi => by rw [hu i (by omega)]; unfold GF.cw; rw [if_pos hi]⟩
        subst hz
        rw [hn]
        simp (disch := omega) only [Option.bind_some, Option.map_some, cond_true, cond_false, wrap_i64, tmod_pos, tdiv_pos, inRange_yes, inUpto_yes, isZero_no, decide_eq_true, decide_eq_false, Bool.not_true, Bool.not_false, Int.toNat_natCast, Nat.mul_one, beqI_yes, beqI_no, bneI_yes, bneI_no, isNil_nil, isNil_iface, wr_wr, Option.isNone_none, Option.isNone_some, plus, Nat.zero_add, Nat.add_zero, e8, beq_self_eq_true]
        exact .some rfl
      · rw [decide_eq_false (show ¬ (GF.df y (GF.cw gC x) : Int) ≤ 2 by omega), cond_false]
        by_cases h4' : GF.df y (GF.cw gC x) ≤ 4
        · -- two codewords would be near
          exfalso
          have hu := p2.near hcode (by omega)
          have : GF.df y u = GF.df y (GF.cw gC x) := GF.wt_congr fun i hi => by rw [hu i hi]
          omega
        · rw [decide_eq_false (show ¬ (GF.df y (GF.cw gC x) : Int) ≤ 4 by omega), cond_false]
          simp (disch := omega) only [Option.bind_some, Option.map_some, cond_true, cond_false, wrap_i64, tmod_pos, tdiv_pos, inRange_yes, inUpto_yes, isZero_no, decide_eq_true, decide_eq_false, Bool.not_true, Bool.not_false, Int.toNat_natCast, Nat.mul_one, beqI_yes, beqI_no, bneI_yes, bneI_no, isNil_nil, isNil_iface, wr_wr, Option.isNone_none, Option.isNone_some, plus, Nat.zero_add, Nat.add_zero]
          refine .bind (encode_ok k hk (hC5.grow hg6) (cc := 58) (Src.take (sp := none) q4 (l := 58) (by omega))) ?_
          rintro ⟨_, _, m7⟩ ⟨d7, rfl, rfl, hg7, _, h7⟩
          simp only at hg7 h7 ⊢
          have f1 := apart_is k (c := 64) (c' := 64) (Src.of (sp := none) h7) (Src.of (sp := some 1) (hg7.get (hg6.get h5))) (by omega) (by omega) (Nat.le_refl _)
          have hdf : GF.wt (fun i => GF.cw gC u i + y i) 64 = n := by
            rw [← p3]
            exact GF.wt_congr fun i hi => by rw [← p2.own gC_gen i hi, GF.add_comm]
          rw [hdf] at f1
          simp (disch := omega) only [Option.bind_some, Option.map_some, cond_true, cond_false, wrap_i64, tmod_pos, tdiv_pos, inRange_yes, inUpto_yes, isZero_no, decide_eq_true, decide_eq_false, Bool.not_true, Bool.not_false, Int.toNat_natCast, Nat.mul_one, beqI_yes, beqI_no, bneI_yes, bneI_no, isNil_nil, isNil_iface, wr_wr, Option.isNone_none, Option.isNone_some, plus, Nat.zero_add, Nat.add_zero, n64', f1, beq_self_eq_true]
          exact .some rfl
    · rintro ⟨_, _, _, m6⟩ ⟨hg6, ⟨u', n', d6, q2, _⟩ | ⟨_, rfl, rfl, rfl⟩⟩
      · rw [q1] at q2; cases q2
      simp only at hg6 ⊢
      have h2 := hfar _ hcode
      have nil5 : isNil (errC 5) = some false := rfl
      have e5 : ifEq tt (errC 5) (.iface ty_api_Code (.int .i64 5)) = some true := by rw [ifEq_errC 5 5 (by omega)]; rfl
      have z0 : (((0 : Nat) : Int) == 0) = true := rfl
      rw [decide_eq_false (show ¬ (GF.df y (GF.cw gC x) : Int) ≤ 2 by omega), cond_false]
      by_cases h4' : GF.df y (GF.cw gC x) ≤ 4
      · rw [decide_eq_true (show (GF.df y (GF.cw gC x) : Int) ≤ 4 by omega), cond_true]
        simp (disch := omega) only [Option.bind_some, Option.map_some, cond_true, cond_false, wrap_i64, tmod_pos, tdiv_pos, inRange_yes, inUpto_yes, isZero_no, decide_eq_true, decide_eq_false, Bool.not_true, Bool.not_false, Int.toNat_natCast, Nat.mul_one, beqI_yes, beqI_no, bneI_yes, bneI_no, isNil_nil, isNil_iface, wr_wr, Option.isNone_none, Option.isNone_some, plus, Nat.zero_add, Nat.add_zero, e5, z0]
        exact .some rfl
      · rw [decide_eq_false (show ¬ (GF.df y (GF.cw gC x) : Int) ≤ 4 by omega), cond_false]
        simp (disch := omega) only [Option.bind_some, Option.map_some, cond_true, cond_false, wrap_i64, tmod_pos, tdiv_pos, inRange_yes, inUpto_yes, isZero_no, decide_eq_true, decide_eq_false, Bool.not_true, Bool.not_false, Int.toNat_natCast, Nat.mul_one, beqI_yes, beqI_no, bneI_yes, bneI_no, isNil_nil, isNil_iface, wr_wr, Option.isNone_none, Option.isNone_some, plus, Nat.zero_add, Nat.add_zero, nil5, e5, z0]
        exact .some rfl
  obtain ⟨⟨r, m'⟩, h1, h2⟩ := key
  exact ⟨m', by rw [h1]; simp only at h2; rw [h2]⟩
end Go.Proofs.Ytoljgolgecbcdaa
