/- RsNear: what Decode answers of any word is a codeword at the distance that it tells; what it refuses is not near a codeword that is tried. For every two lists of bytes. -/
import Derived.Test.YtoljgolgecbcdabRsL
import Derived.Test.YtoljgolgecbcdabFLRsNear
set_option linter.unusedVariables false
set_option linter.unusedSectionVars false
set_option linter.unusedSimpArgs false
namespace Go.Proofs.Ytoljgolgecbcdab
open Go.Mx

theorem rsNear_run (o0 o1 : MObj) (a0 : Option Addr) (n0 c0 : Nat) (cs0 : List Value) (a1 : Option Addr) (n1 c1 : Nat) (cs1 : List Value) (hh0 : Holds o0 0 a0 n0 [.int .u8] cs0) (hc0 : n0 ≤ c0) (y0 : n0 * 1 ≤ 140737488351232) (hh1 : Holds o1 1 a1 n1 [.int .u8] cs1) (hc1 : n1 ≤ c1) (y1 : n1 * 1 ≤ 140737488351232) :
    ∃ k m', patinalaw02_RsNear k a0 n0 c0 a1 n1 c1 [o0, o1] = some (true, m') := by
  obtain ⟨w0, hw0⟩ := holds_src (m := [o0, o1]) hh0 rfl
  obtain ⟨w1, hw1⟩ := holds_src (m := [o0, o1]) hh1 rfl
  obtain ⟨k, hk⟩ : ∃ k, 1000 < k := ⟨1001, by omega⟩
  refine ⟨k, ?_⟩
  have key : Ok (patinalaw02_RsNear k a0 n0 c0 a1 n1 c1 [o0, o1]) fun r => r.1 = true := by
    unfold patinalaw02_RsNear
    refine .bind (shown_ok k hk _) ?_
    rintro ⟨_, m1⟩ ⟨rfl, hg1⟩
    refine .bind (rsNew_ok k hk m1) ?_
    rintro ⟨_, m2⟩ ⟨c, rfl, hg2, _, hC⟩
    simp only at hg1 hg2 hC ⊢
    have t64 : Int.toNat 64 = 64 := rfl
    have t58 : Int.toNat 58 = 58 := rfl
    have hG := hg1.trans hg2
    simp (disch := omega) only [Option.bind_some, Option.map_some, cond_true, cond_false, wrap_i64, tmod_pos, tdiv_pos, inRange_yes, inUpto_yes, isZero_no, decide_eq_true, decide_eq_false, Bool.not_true, Bool.not_false, Int.toNat_natCast, Nat.mul_one, beqI_yes, beqI_no, bneI_yes, bneI_no, isNil_nil, isNil_iface, wr_wr, Option.isNone_none, Option.isNone_some, plus, Nat.zero_add, Nat.add_zero, t64, bys_zero]
    generalize hX : pad n0 w0 = x
    have hl := get_last (m := m2) (o := .live (bys 64 x)) rfl
    have hg3 : Gr m2 (m2 ++ [.live (bys 64 x)]) := Gr.app _ _
    have sx := Src.of (sp := none) hl
    refine patinalaw02_RsNear_l0_rule k _ (fun r x0a x0n x0c x1a x1n x1c x5 x6 x7a x7n x7c x8 m' => a0 = x0a ∧ n0 = x0n ∧ c0 = x0c ∧ a1 = x1a ∧ n1 = x1n ∧ c1 = x1c ∧ true = x5 ∧ (some ⟨c, 0, none⟩ : Option Addr) = x6 ∧ (some ⟨m2.length, 0, none⟩ : Option Addr) = x7a ∧ 64 = x7n ∧ 64 = x7c ∧
      ∃ j : Nat, x8 = j ∧ j + r = 64 ∧ m' = m2 ++ [.live (bys 64 fun i => if i < j then pad n0 w0 i else 0)]) ?_ k 64 _ _ _ _ _ _ _ _ _ _ _ _ _ (by omega)
      ⟨rfl, rfl, rfl, rfl, rfl, rfl, rfl, rfl, rfl, rfl, rfl, 0, rfl, by omega, by rw [bys_congr (u := fun i => if i < 0 then pad n0 w0 i else 0) (w := fun _ => 0) fun i hi => if_neg (by omega)]⟩
    rintro r nx _ _ _ _ _ _ _ _ _ _ _ _ _ ⟨rfl, rfl, rfl, rfl, rfl, rfl, rfl, rfl, rfl, rfl, rfl, j, rfl, hr, rfl⟩ hnx
    unfold patinalaw02_RsNear_l0_b
    have fin : Ok ((rs_Codec_Decode k (some ⟨c, 0, none⟩) (some ⟨m2.length, 0, none⟩) 64 64 (m2 ++ [.live (bys 64 x)])).bind fun r9 =>
  (isNil r9.2.2.1).bind fun b10 =>
  bif b10 then (
  (rs_Codec_Encode k (some ⟨c, 0, none⟩) r9.1.a r9.1.len r9.1.cap r9.2.2.2).bind fun r11 =>
  bif true then (
  (isNil r11.2.1).bind fun b12 =>
  bif b12 then (
  bif ((r11.1.len : Nat) : Int) == 64 then (
  bif decide (r9.2.1 ≥ 0) then (
  bif decide (r9.2.1 ≤ 2) then (
  (patinaref02_Apart k r11.1.a r11.1.len r11.1.cap (some ⟨m2.length, 0, none⟩) 64 64 r11.2.2).bind fun r13 =>
  some (r13.1 == r9.2.1, r13.2)) else (
  some (false, r11.2.2))) else (
  some (false, r11.2.2))) else (
  some (false, r11.2.2))) else (
  some (false, r11.2.2))) else (
  some (false, r11.2.2))) else (
  (patinalaw02_message k a1 n1 c1 r9.2.2.2).bind fun r14 =>
  (rs_Codec_Encode k (some ⟨c, 0, none⟩) r14.1.a r14.1.len r14.1.cap r14.2).bind fun r15 =>
  bif inUpto 58 64 then (
  (rs_Codec_Encode k (some ⟨c, 0, none⟩) (sliceK.clear (some ⟨m2.length, 0, none⟩) false) (Int.toNat 58) 64 r15.2.2).bind fun r16 =>
  bif true then (
  (ifEq tt r9.2.2.1 (Value.iface ty_api_Code (Value.int .i64 5))).bind fun b17 =>
  bif b17 then (
  (isNil r15.2.1).bind fun b18 =>
  bif b18 then (
  (isNil r16.2.1).bind fun b19 =>
  bif b19 then (
  bif ((r15.1.len : Nat) : Int) == 64 then (
  bif ((r16.1.len : Nat) : Int) == 64 then (
  (patinaref02_Apart k r15.1.a r15.1.len r15.1.cap (some ⟨m2.length, 0, none⟩) 64 64 r16.2.2).bind fun r20 =>
  bif decide (r20.1 > 2) then (
  (patinaref02_Apart k r16.1.a r16.1.len r16.1.cap (some ⟨m2.length, 0, none⟩) 64 64 r20.2).bind fun r21 =>
  some (decide (r21.1 > 2), r21.2)) else (
  some (false, r20.2))) else (
  some (false, r16.2.2))) else (
  some (false, r16.2.2))) else (
  some (false, r16.2.2))) else (
  some (false, r16.2.2))) else (
  some (false, r16.2.2))) else (
  some (false, r16.2.2))) else none)) fun r => r.1 = true := by
      refine .bind (decode_ok k hk (hC.grow hg3) (cc := 64) sx) ?_
      have n64 : (((64 : Nat) : Int) == 64) = true := rfl
      rintro ⟨_, _, _, m4⟩ ⟨hg4, ⟨u, n, d, q1, rfl, rfl, rfl, q2, q3⟩ | ⟨q1, rfl, rfl, rfl⟩⟩
      · simp only at hg4 q3 ⊢
        rcases GF.dec_spec x with ⟨u', n', h1, p2, p3, p4⟩ | ⟨h1, _⟩
        rotate_left
        · rw [q1] at h1; cases h1
        rw [q1] at h1
        simp only [Option.some.injEq, Prod.mk.injEq] at h1
        obtain ⟨rfl, rfl⟩ := h1
        simp (disch := omega) only [Option.bind_some, Option.map_some, cond_true, cond_false, wrap_i64, tmod_pos, tdiv_pos, inRange_yes, inUpto_yes, isZero_no, decide_eq_true, decide_eq_false, Bool.not_true, Bool.not_false, Int.toNat_natCast, Nat.mul_one, beqI_yes, beqI_no, bneI_yes, bneI_no, isNil_nil, isNil_iface, wr_wr, Option.isNone_none, Option.isNone_some, plus, Nat.zero_add, Nat.add_zero]
        refine .bind (encode_ok k hk (hC.grow (hg3.trans hg4)) (cc := 58) (Src.take (sp := none) q3 (l := 58) (by omega))) ?_
        rintro ⟨_, _, m5⟩ ⟨d5, rfl, rfl, hg5, _, h5⟩
        simp only at hg5 h5 ⊢
        have e1 := apart_is k (c := 64) (c' := 64) (Src.of (sp := none) h5) (sx.grow (hg4.trans hg5)) (by omega) (by omega) (Nat.le_refl _)
        have hdf : GF.wt (fun i => GF.cw gC u i + x i) 64 = n := by
          rw [← p3]
          exact GF.wt_congr fun i hi => by rw [← p2.own gC_gen i hi, GF.add_comm]
        rw [hdf] at e1
        simp (disch := omega) only [Option.bind_some, Option.map_some, cond_true, cond_false, wrap_i64, tmod_pos, tdiv_pos, inRange_yes, inUpto_yes, isZero_no, decide_eq_true, decide_eq_false, Bool.not_true, Bool.not_false, Int.toNat_natCast, Nat.mul_one, beqI_yes, beqI_no, bneI_yes, bneI_no, isNil_nil, isNil_iface, wr_wr, Option.isNone_none, Option.isNone_some, plus, Nat.zero_add, Nat.add_zero, n64, e1, beq_self_eq_true]
        exact .some rfl
      · simp only at hg4 ⊢
        rcases GF.dec_spec x with ⟨u', n', h1, _⟩ | ⟨_, hfar⟩
        · rw [q1] at h1; cases h1
        have nil5 : isNil (errC 5) = some false := rfl
        have e5 : ifEq tt (errC 5) (.iface ty_api_Code (.int .i64 5)) = some true := by rw [ifEq_errC 5 5 (by omega)]; rfl
        have hG4 := hG.trans (hg3.trans hg4)
        have e1 := message_is k hk (c := c1) (hw1.grow hG4)
        simp (disch := omega) only [Option.bind_some, Option.map_some, cond_true, cond_false, wrap_i64, tmod_pos, tdiv_pos, inRange_yes, inUpto_yes, isZero_no, decide_eq_true, decide_eq_false, Bool.not_true, Bool.not_false, Int.toNat_natCast, Nat.mul_one, beqI_yes, beqI_no, bneI_yes, bneI_no, isNil_nil, isNil_iface, wr_wr, Option.isNone_none, Option.isNone_some, plus, Nat.zero_add, Nat.add_zero, nil5, e1]
        have hg5 : Gr m4 (m4 ++ [.live (bys 58 (pad n1 w1))]) := Gr.app _ _
        have hl5 := get_last (m := m4) (o := .live (bys 58 (pad n1 w1))) rfl
        refine .bind (encode_ok k hk (hC.grow ((hg3.trans hg4).trans hg5)) (cc := 58) (Src.of (sp := none) hl5)) ?_
        rintro ⟨_, _, m6⟩ ⟨d6, rfl, rfl, hg6, _, h6⟩
        simp only at hg6 h6 ⊢
        have u58 : inUpto 58 64 = true := rfl
        have hcl : sliceK.clear (some ⟨m2.length, 0, none⟩) false = some ⟨m2.length, 0, none⟩ := rfl
        have hG6 := (hg4.trans hg5).trans hg6
        simp (disch := omega) only [Option.bind_some, Option.map_some, cond_true, cond_false, wrap_i64, tmod_pos, tdiv_pos, inRange_yes, inUpto_yes, isZero_no, decide_eq_true, decide_eq_false, Bool.not_true, Bool.not_false, Int.toNat_natCast, Nat.mul_one, beqI_yes, beqI_no, bneI_yes, bneI_no, isNil_nil, isNil_iface, wr_wr, Option.isNone_none, Option.isNone_some, plus, Nat.zero_add, Nat.add_zero, u58, hcl, t58]
        refine .bind (encode_ok k hk (hC.grow (hg3.trans hG6)) (cc := 64) (Src.take (sp := none) (hG6.get hl) (l := 58) (by omega))) ?_
        rintro ⟨_, _, m7⟩ ⟨d7, rfl, rfl, hg7, _, h7⟩
        simp only at hg7 h7 ⊢
        have f1 := apart_is k (c := 64) (c' := 64) (Src.of (sp := none) (hg7.get h6)) (sx.grow (hG6.trans hg7)) (by omega) (by omega) (Nat.le_refl _)
        have f2 := apart_is k (c := 64) (c' := 64) (Src.of (sp := none) h7) (sx.grow (hG6.trans hg7)) (by omega) (by omega) (Nat.le_refl _)
        have g1 := hfar _ (GF.cw_code gC_gen (pad n1 w1))
        have g2 := hfar _ (GF.cw_code gC_gen x)
        rw [GF.df_comm] at g1 g2
        unfold GF.df at g1 g2
        have d1 : decide ((GF.wt (fun i => GF.cw gC (pad n1 w1) i + x i) 64 : Int) > 2) = true := decide_eq_true (by omega)
        have d2 : decide ((GF.wt (fun i => GF.cw gC x i + x i) 64 : Int) > 2) = true := decide_eq_true (by omega)
        simp (disch := omega) only [Option.bind_some, Option.map_some, cond_true, cond_false, wrap_i64, tmod_pos, tdiv_pos, inRange_yes, inUpto_yes, isZero_no, decide_eq_true, decide_eq_false, Bool.not_true, Bool.not_false, Int.toNat_natCast, Nat.mul_one, beqI_yes, beqI_no, bneI_yes, bneI_no, isNil_nil, isNil_iface, wr_wr, Option.isNone_none, Option.isNone_some, plus, Nat.zero_add, Nat.add_zero, e5, n64, f1, f2, d1, d2]
        exact .some rfl
    by_cases hj : (j : Int) < ((64 : Nat) : Int)
    · by_cases hj2 : (j : Int) < n0
      · obtain ⟨ad, rfl, e1⟩ := (hw0.grow (hG.trans (Gr.app m2 [.live (bys 64 fun i => if i < j then pad n0 w0 i else 0)]))).ld (i := j) (by omega)
        unfold plus at e1
        have e2 := bys_st (sp := none) (get_last (m := m2) (o := .live (bys 64 fun i => if i < j then pad n0 w0 i else 0)) rfl) (i := j) (by omega) (w0 j)
        rw [wr_last rfl, pad_step (by omega)] at e2
        simp (disch := omega) only [Option.bind_some, Option.map_some, cond_true, cond_false, wrap_i64, tmod_pos, tdiv_pos, inRange_yes, inUpto_yes, isZero_no, decide_eq_true, decide_eq_false, Bool.not_true, Bool.not_false, Int.toNat_natCast, Nat.mul_one, beqI_yes, beqI_no, bneI_yes, bneI_no, isNil_nil, isNil_iface, wr_wr, Option.isNone_none, Option.isNone_some, plus, Nat.zero_add, Nat.add_zero, e1, e2]
        exact hnx (r - 1) _ _ _ _ _ _ _ _ _ _ _ _ _ (by omega) ⟨rfl, rfl, rfl, rfl, rfl, rfl, rfl, rfl, rfl, rfl, rfl, j + 1, by omega, by omega, rfl⟩
      · rw [pad_end (by omega), hX]
        rw [decide_eq_true hj, cond_true, decide_eq_false hj2, cond_false]
        exact fin
    · rw [pad_end (by omega), hX]
      rw [decide_eq_false hj, cond_false]
      exact fin
  obtain ⟨⟨r, m'⟩, h1, h2⟩ := key
  exact ⟨m', by rw [h1]; simp only at h2; rw [h2]⟩
end Go.Proofs.Ytoljgolgecbcdab
