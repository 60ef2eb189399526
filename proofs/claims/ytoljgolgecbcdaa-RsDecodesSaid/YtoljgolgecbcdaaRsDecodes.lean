/- RsDecodes: Decode of any bytes; what came out stays its owner's. For every list of bytes. -/
import Derived.Test.YtoljgolgecbcdaaLend
import Derived.Test.YtoljgolgecbcdaaApart
import Derived.Test.YtoljgolgecbcdaaRsDr
import Derived.Test.YtoljgolgecbcdaaFLRsDecodes
set_option linter.unusedVariables false
set_option linter.unusedSectionVars false
set_option linter.unusedSimpArgs false
namespace Go.Proofs.Ytoljgolgecbcdaa
open Go.Mx

theorem rsDecodes_run (o0 : MObj) (a0 : Option Addr) (n0 c0 : Nat) (cs0 : List Value) (hh0 : Holds o0 0 a0 n0 [.int .u8] cs0) (hc0 : n0 ≤ c0) (y0 : n0 * 1 ≤ 140737488351232) :
    ∃ k m', patinalaw02_RsDecodes k a0 n0 c0 [o0] = some (true, m') := by
  obtain ⟨w, hw⟩ := holds_src (m := [o0]) hh0 rfl
  obtain ⟨k, hk, hk2⟩ : ∃ k, 1000 < k ∧ n0 + 5 < k := ⟨n0 + 1001, by omega, by omega⟩
  refine ⟨k, ?_⟩
  have key : Ok (patinalaw02_RsDecodes k a0 n0 c0 [o0]) fun r => r.1 = true := by
    unfold patinalaw02_RsDecodes
    refine .bind (shown_ok k hk _) ?_
    rintro ⟨_, m1⟩ ⟨rfl, hg1⟩
    refine .bind (rsNew_ok k hk m1) ?_
    rintro ⟨_, m2⟩ ⟨c, rfl, hg2, hc2, hC⟩
    simp only at hg1 hg2 hC ⊢
    have hG := hg1.trans hg2
    simp (disch := omega) only [Option.bind_some, Option.map_some, cond_true, cond_false, wrap_i64, tmod_pos, tdiv_pos, inRange_yes, inUpto_yes, isZero_no, decide_eq_true, decide_eq_false, Bool.not_true, Bool.not_false, Int.toNat_natCast, Nat.mul_one, beqI_yes, beqI_no, bneI_yes, bneI_no, isNil_nil, isNil_iface, wr_wr, Option.isNone_none, Option.isNone_some, plus, Nat.zero_add, Nat.add_zero]
    refine .bind (lend_ok k hk (c := c0) (hw.grow hG) (by omega)) ?_
    rintro ⟨_, m3⟩ ⟨x, d, e, u, rfl, hg3, hx3, hd3, he3, hL, hu⟩
    simp only at hg3 hL ⊢
    have b1 := bytes_is k hL
    have hle : ([o0] : Mem).length ≤ m2.length := hG.len
    simp only [List.length_cons, List.length_nil] at hle
    simp (disch := omega) only [Option.bind_some, Option.map_some, cond_true, cond_false, wrap_i64, tmod_pos, tdiv_pos, inRange_yes, inUpto_yes, isZero_no, decide_eq_true, decide_eq_false, Bool.not_true, Bool.not_false, Int.toNat_natCast, Nat.mul_one, beqI_yes, beqI_no, bneI_yes, bneI_no, isNil_nil, isNil_iface, wr_wr, Option.isNone_none, Option.isNone_some, plus, Nat.zero_add, Nat.add_zero, b1]
    by_cases hn : n0 = 64
    · subst hn
      have su : Src m3 (some ⟨d, 0, some 1⟩) 64 w := by
        have := Src.take (sp := some 1) hL.d_ (l := 64) (by omega)
        unfold Src at this ⊢
        rw [this, bys_congr hu]
      have n64 : (((64 : Nat) : Int) != 64) = false := rfl
      have hxl := get_lt hL.x_
      have hdl := get_lt hL.d_
      have hel := get_lt hL.e_
      refine .bind (decode_ok k hk (hC.grow hg3) (cc := 64 + 5) su) ?_
      rcases hdec : GF.dec w with _ | ⟨v, nv⟩
      · -- there is none near
        rintro ⟨_, _, _, m4⟩ ⟨hg4, ⟨u', n', d', q2, _⟩ | ⟨_, rfl, rfl, rfl⟩⟩
        · cases q2
        simp only at hg4 ⊢
        have hL4 := hL.grow hg4
        have b2 := bytes_is k hL4
        simp (disch := omega) only [Option.bind_some, Option.map_some, cond_true, cond_false, wrap_i64, tmod_pos, tdiv_pos, inRange_yes, inUpto_yes, isZero_no, decide_eq_true, decide_eq_false, Bool.not_true, Bool.not_false, Int.toNat_natCast, Nat.mul_one, beqI_yes, beqI_no, bneI_yes, bneI_no, isNil_nil, isNil_iface, wr_wr, Option.isNone_none, Option.isNone_some, plus, Nat.zero_add, Nat.add_zero, b2]
        refine .bind (decode_ok k hk (hC.grow (hg3.trans hg4)) (cc := 64 + 5) (su.grow hg4)) ?_
        rw [hdec]
        rintro ⟨_, _, _, m5⟩ ⟨hg5, ⟨u', n', d', q2, _⟩ | ⟨_, rfl, rfl, rfl⟩⟩
        · cases q2
        simp only at hg5 ⊢
        have hL5 := hL4.grow hg5
        have k1 := kept_is k hL5 hk2 (by omega)
        simp (disch := omega) only [Option.bind_some, Option.map_some, cond_true, cond_false, wrap_i64, tmod_pos, tdiv_pos, inRange_yes, inUpto_yes, isZero_no, decide_eq_true, decide_eq_false, Bool.not_true, Bool.not_false, Int.toNat_natCast, Nat.mul_one, beqI_yes, beqI_no, bneI_yes, bneI_no, isNil_nil, isNil_iface, wr_wr, Option.isNone_none, Option.isNone_some, plus, Nat.zero_add, Nat.add_zero, k1, n64]
        refine .bind (refDecode_ok k hk (c := c0) (hw.grow (((hG.trans hg3).trans hg4).trans hg5))) ?_
        rw [hdec]
        rintro ⟨_, _, _, m6⟩ ⟨hg6, ⟨u', n', d', cc, q2, _⟩ | ⟨_, rfl⟩⟩
        · cases q2
        simp only at hg6 ⊢
        have e5 : ifEq tt (errC 5) (.iface ty_api_Code (.int .i64 5)) = some true := by rw [ifEq_errC 5 5 (by omega)]; rfl
        have z0 : (((0 : Nat) : Int) == 0) = true := rfl
        have z1 : ((0 : Int) == 0) = true := rfl
        simp (disch := omega) only [Option.bind_some, Option.map_some, cond_true, cond_false, wrap_i64, tmod_pos, tdiv_pos, inRange_yes, inUpto_yes, isZero_no, decide_eq_true, decide_eq_false, Bool.not_true, Bool.not_false, Int.toNat_natCast, Nat.mul_one, beqI_yes, beqI_no, bneI_yes, bneI_no, isNil_nil, isNil_iface, wr_wr, Option.isNone_none, Option.isNone_some, plus, Nat.zero_add, Nat.add_zero, e5, z0, z1]
        exact .some rfl
      · rintro ⟨_, _, _, m4⟩ ⟨hg4, ⟨u', n', d4, q2, rfl, rfl, rfl, hd4, h4⟩ | ⟨q2, _⟩⟩
        rotate_left
        · cases q2
        simp only [Option.some.injEq, Prod.mk.injEq] at q2
        obtain ⟨rfl, rfl⟩ := q2
        simp only at hg4 h4 ⊢
        have hL4 := hL.grow hg4
        have b2 := bytes_is k hL4
        simp (disch := omega) only [Option.bind_some, Option.map_some, cond_true, cond_false, wrap_i64, tmod_pos, tdiv_pos, inRange_yes, inUpto_yes, isZero_no, decide_eq_true, decide_eq_false, Bool.not_true, Bool.not_false, Int.toNat_natCast, Nat.mul_one, beqI_yes, beqI_no, bneI_yes, bneI_no, isNil_nil, isNil_iface, wr_wr, Option.isNone_none, Option.isNone_some, plus, Nat.zero_add, Nat.add_zero, b2]
        refine .bind (decode_ok k hk (hC.grow (hg3.trans hg4)) (cc := 64 + 5) (su.grow hg4)) ?_
        rw [hdec]
        rintro ⟨_, _, _, m5⟩ ⟨hg5, ⟨u', n', d5, q2, rfl, rfl, rfl, hd5, h5⟩ | ⟨q2, _⟩⟩
        rotate_left
        · cases q2
        simp only [Option.some.injEq, Prod.mk.injEq] at q2
        obtain ⟨rfl, rfl⟩ := q2
        simp only at hg5 h5 ⊢
        have hL5 := hL4.grow hg5
        have k1 := kept_is k hL5 hk2 (by omega)
        simp (disch := omega) only [Option.bind_some, Option.map_some, cond_true, cond_false, wrap_i64, tmod_pos, tdiv_pos, inRange_yes, inUpto_yes, isZero_no, decide_eq_true, decide_eq_false, Bool.not_true, Bool.not_false, Int.toNat_natCast, Nat.mul_one, beqI_yes, beqI_no, bneI_yes, bneI_no, isNil_nil, isNil_iface, wr_wr, Option.isNone_none, Option.isNone_some, plus, Nat.zero_add, Nat.add_zero, k1, n64]
        have hG5 := ((hG.trans hg3).trans hg4).trans hg5
        refine .bind (refDecode_ok k hk (c := c0) (hw.grow hG5)) ?_
        rw [hdec]
        rintro ⟨_, _, _, m6⟩ ⟨hg6, ⟨u', n', d6, cc, q2, rfl, rfl, rfl, hd6, u6, h6, hu6⟩ | ⟨q2, _⟩⟩
        rotate_left
        · cases q2
        simp only [Option.some.injEq, Prod.mk.injEq] at q2
        obtain ⟨rfl, rfl⟩ := q2
        simp only at hg6 h6 hd6 ⊢
        have hL6 := hL5.grow hg6
        have h46 := hg6.get (hg5.get h4)
        have h56 := hg6.get h5
        have hd4l := get_lt h4
        have hd5l := get_lt h5
        simp (disch := omega) only [Option.bind_some, Option.map_some, cond_true, cond_false, wrap_i64, tmod_pos, tdiv_pos, inRange_yes, inUpto_yes, isZero_no, decide_eq_true, decide_eq_false, Bool.not_true, Bool.not_false, Int.toNat_natCast, Nat.mul_one, beqI_yes, beqI_no, bneI_yes, bneI_no, isNil_nil, isNil_iface, wr_wr, Option.isNone_none, Option.isNone_some, plus, Nat.zero_add, Nat.add_zero]
        refine .bind (turn_ok k hL6 hk2 (by omega)) ?_
        rintro m7 ⟨⟨u7, hL7⟩, hf7, hl7, hG7⟩
        have hd6l : m5.length ≤ d6 := hd6
        have l4 := hg4.len
        have l5 := hg5.len
        have h47 : m7[d4]? = some (.live (bys 64 v)) := by rw [hf7 d4 (by omega) (by omega)]; exact h46
        have h57 : m7[d5]? = some (.live (bys 64 v)) := by rw [hf7 d5 (by omega) (by omega)]; exact h56
        have h67 : m7[d6]? = some (.live (bys 64 u6)) := by rw [hf7 d6 (by omega) (by omega)]; exact h6
        obtain ⟨z, s1, s2⟩ := same_is k (c := 58) (c' := cc) (Src.take (sp := none) h47 (l := 58) (by omega)) (Src.take (sp := some 1) h67 (l := 58) (by omega)) (by omega) (by omega)
        have hz : z = true := s2.2 ⟨rfl, fun i hi => (hu6 i (by omega)).symm⟩
        subst hz
        obtain ⟨z, s3, s4⟩ := same_is k (c := 58) (c' := cc) (Src.take (sp := none) h57 (l := 58) (by omega)) (Src.take (sp := some 1) h67 (l := 58) (by omega)) (by omega) (by omega)
        have hz : z = true := s4.2 ⟨rfl, fun i hi => (hu6 i (by omega)).symm⟩
        subst hz
        simp (disch := omega) only [Option.bind_some, Option.map_some, cond_true, cond_false, wrap_i64, tmod_pos, tdiv_pos, inRange_yes, inUpto_yes, isZero_no, decide_eq_true, decide_eq_false, Bool.not_true, Bool.not_false, Int.toNat_natCast, Nat.mul_one, beqI_yes, beqI_no, bneI_yes, bneI_no, isNil_nil, isNil_iface, wr_wr, Option.isNone_none, Option.isNone_some, plus, Nat.zero_add, Nat.add_zero, s1, s3]
        have l7 := get_lt h47
        have l57 := get_lt h57
        let D : Nat → Nat := fun i => if i = 0 then d4 else d5
        have hbox : ([.slice (some ⟨d4, 0, none⟩) 58 58, .slice (some ⟨d5, 0, none⟩) 58 58] : List Value) = sls 2 D (fun _ => 58) none := rfl
        rw [hbox]
        refine .bind (apart_ok k hk (cc := 2) (D := D) (nn := fun _ => 58) (L := fun _ => 64) (get_last (m := m7) rfl) ?_ ?_ ?_ ?_ (by omega)) ?_
        · intro j _
          show ∃ u, _[if j = 0 then d4 else d5]? = _
          split
          · exact ⟨_, get_grow h47⟩
          · exact ⟨_, get_grow h57⟩
        · intro j _; omega
        · intro i j hi hj hij
          show (if i = 0 then d4 else d5) ≠ (if j = 0 then d4 else d5)
          by_cases h0 : i = 0
          · rw [if_pos h0, if_neg (by omega)]; omega
          · rw [if_neg h0, if_pos (by omega)]; omega
        · intro i hi
          show (if i = 0 then d4 else d5) ≠ _
          split <;> omega
        · rintro ⟨_, m8⟩ ⟨rfl, _, _⟩
          simp (disch := omega) only [Option.bind_some, Option.map_some, cond_true, cond_false, wrap_i64, tmod_pos, tdiv_pos, inRange_yes, inUpto_yes, isZero_no, decide_eq_true, decide_eq_false, Bool.not_true, Bool.not_false, Int.toNat_natCast, Nat.mul_one, beqI_yes, beqI_no, bneI_yes, bneI_no, isNil_nil, isNil_iface, wr_wr, Option.isNone_none, Option.isNone_some, plus, Nat.zero_add, Nat.add_zero, beq_self_eq_true]
          exact .some rfl
    · have e1 := decode_len k hk (m := m3) (c := c) (a := some ⟨d, 0, some 1⟩) (cc := n0 + 5) hn
      have k1 := kept_is k hL hk2 (by omega)
      have n58 : (((n0 : Nat) : Int) != 64) = true := bneI_yes (by omega)
      have e10 : ifEq tt (errC 1) (.iface ty_api_Code (.int .i64 1)) = some true := by rw [ifEq_errC 1 1 (by omega)]; rfl
      have z0 : (((0 : Nat) : Int) == 0) = true := rfl
      have z1 : ((0 : Int) == 0) = true := rfl
      simp (disch := omega) only [Option.bind_some, Option.map_some, cond_true, cond_false, wrap_i64, tmod_pos, tdiv_pos, inRange_yes, inUpto_yes, isZero_no, decide_eq_true, decide_eq_false, Bool.not_true, Bool.not_false, Int.toNat_natCast, Nat.mul_one, beqI_yes, beqI_no, bneI_yes, bneI_no, isNil_nil, isNil_iface, wr_wr, Option.isNone_none, Option.isNone_some, plus, Nat.zero_add, Nat.add_zero, e1, b1, k1, n58, e10, z0, z1]
      exact .some rfl
  obtain ⟨⟨r, m'⟩, h1, h2⟩ := key
  exact ⟨m', by rw [h1]; simp only at h2; rw [h2]⟩
end Go.Proofs.Ytoljgolgecbcdaa
