/- RsEncodes: Encode of any bytes; what came out stays its owner's. For every list of bytes. -/
import Derived.Test.YtoljgolgecbcdaaLend
import Derived.Test.YtoljgolgecbcdaaApart
import Derived.Test.YtoljgolgecbcdaaRsE
import Derived.Test.YtoljgolgecbcdaaFLRsEncodes
set_option linter.unusedVariables false
set_option linter.unusedSectionVars false
set_option linter.unusedSimpArgs false
namespace Go.Proofs.Ytoljgolgecbcdaa
open Go.Mx

theorem rsEncodes_run (o0 : MObj) (a0 : Option Addr) (n0 c0 : Nat) (cs0 : List Value) (hh0 : Holds o0 0 a0 n0 [.int .u8] cs0) (hc0 : n0 ≤ c0) (y0 : n0 * 1 ≤ 140737488351232) :
    ∃ k m', patinalaw02_RsEncodes k a0 n0 c0 [o0] = some (true, m') := by
  obtain ⟨w, hw⟩ := holds_src (m := [o0]) hh0 rfl
  obtain ⟨k, hk, hk2⟩ : ∃ k, 1000 < k ∧ n0 + 5 < k := ⟨n0 + 1001, by omega, by omega⟩
  refine ⟨k, ?_⟩
  have key : Ok (patinalaw02_RsEncodes k a0 n0 c0 [o0]) fun r => r.1 = true := by
    unfold patinalaw02_RsEncodes
    refine .bind (shown_ok k hk _) ?_
    rintro ⟨_, m1⟩ ⟨rfl, hg1⟩
    refine .bind (rsNew_ok k hk m1) ?_
    rintro ⟨_, m2⟩ ⟨c, rfl, hg2, hc2, hC⟩
    simp only at hg1 hg2 hC ⊢
    have hG := hg1.trans hg2
    simp (disch := omega) only [Option.bind_some, Option.map_some, cond_true, cond_false, wrap_i64, tmod_pos, tdiv_pos, inRange_yes, inUpto_yes, isZero_no, decide_eq_true, decide_eq_false, Bool.not_true, Bool.not_false, Int.toNat_natCast, Nat.mul_one, beqI_yes, beqI_no, bneI_yes, bneI_no, isNil_nil, isNil_iface, wr_wr, Option.isNone_none, Option.isNone_some, plus, Nat.zero_add, Nat.add_zero]
    refine .bind (lend_ok k hk (c := c0) (hw.grow hG) (by omega)) ?_
    rintro ⟨_, m3⟩ ⟨x, d, e, u, rfl, hg3, hx3, hd3, he3, hL, hu⟩
    simp only at hg3 hL ⊢
    have b1 := bytes_is k hL
    have hle : ([o0] : Mem).length ≤ m2.length := hG.len
    simp only [List.length_cons, List.length_nil] at hle
    simp (disch := omega) only [Option.bind_some, Option.map_some, cond_true, cond_false, wrap_i64, tmod_pos, tdiv_pos, inRange_yes, inUpto_yes, isZero_no, decide_eq_true, decide_eq_false, Bool.not_true, Bool.not_false, Int.toNat_natCast, Nat.mul_one, beqI_yes, beqI_no, bneI_yes, bneI_no, isNil_nil, isNil_iface, wr_wr, Option.isNone_none, Option.isNone_some, plus, Nat.zero_add, Nat.add_zero, b1]
    by_cases hn : n0 = 58
    · subst hn
      refine .bind (encode_ok k hk (hC.grow hg3) (cc := 58 + 5) (Src.take (sp := some 1) hL.d_ (l := 58) (by omega))) ?_
      rintro ⟨_, _, m4⟩ ⟨d4, rfl, rfl, hg4, hd4, h4⟩
      simp only at hg4 h4 ⊢
      have hL4 := hL.grow hg4
      have b2 := bytes_is k hL4
      simp (disch := omega) only [Option.bind_some, Option.map_some, cond_true, cond_false, wrap_i64, tmod_pos, tdiv_pos, inRange_yes, inUpto_yes, isZero_no, decide_eq_true, decide_eq_false, Bool.not_true, Bool.not_false, Int.toNat_natCast, Nat.mul_one, beqI_yes, beqI_no, bneI_yes, bneI_no, isNil_nil, isNil_iface, wr_wr, Option.isNone_none, Option.isNone_some, plus, Nat.zero_add, Nat.add_zero, b2]
      refine .bind (encode_ok k hk (hC.grow (hg3.trans hg4)) (cc := 58 + 5) (Src.take (sp := some 1) hL4.d_ (l := 58) (by omega))) ?_
      rintro ⟨_, _, m5⟩ ⟨d5, rfl, rfl, hg5, hd5, h5⟩
      simp only at hg5 h5 ⊢
      have hL5 := hL4.grow hg5
      have k1 := kept_is k hL5 hk2 (by omega)
      have n58 : (((58 : Nat) : Int) != 58) = false := rfl
      simp (disch := omega) only [Option.bind_some, Option.map_some, cond_true, cond_false, wrap_i64, tmod_pos, tdiv_pos, inRange_yes, inUpto_yes, isZero_no, decide_eq_true, decide_eq_false, Bool.not_true, Bool.not_false, Int.toNat_natCast, Nat.mul_one, beqI_yes, beqI_no, bneI_yes, bneI_no, isNil_nil, isNil_iface, wr_wr, Option.isNone_none, Option.isNone_some, plus, Nat.zero_add, Nat.add_zero, k1, n58]
      have d4' := hg5.get h4
      have hxl := get_lt hL.x_
      have hdl := get_lt hL.d_
      have hel := get_lt hL.e_
      have hd4l := get_lt h4
      have hd5l := get_lt h5
      refine .bind (turn_ok k hL5 hk2 (by omega)) ?_
      rintro m6 ⟨⟨u', hL6⟩, hf6, hl6, hG6⟩
      have hG06 := hG6 [o0] (((hG.trans hg3).trans hg4).trans hg5) (by simp only [List.length_cons, List.length_nil]; omega) (by simp only [List.length_cons, List.length_nil]; omega)
      refine .bind (refEncode_ok k hk (c := c0) (hw.grow hG06)) ?_
      rintro ⟨_, m7⟩ ⟨a7, rfl, hA⟩
      simp only at hA ⊢
      have h47 : m7[d4]? = some (.live (bys 64 (GF.cw gC u))) := hA.1.get (by rw [hf6 d4 (by omega) (by omega)]; exact d4')
      have h57 : m7[d5]? = some (.live (bys 64 (GF.cw gC u))) := hA.1.get (by rw [hf6 d5 (by omega) (by omega)]; exact h5)
      have hcw : ∀ i, i < 64 → GF.cw gC u i = GF.cw gC w i := fun i _ => GF.cw_congr hu i
      obtain ⟨z, s1, s2⟩ := same_is k (c := 64) (c' := 64) (Src.of (sp := none) h47) hA.src (by omega) (by omega)
      have hz : z = true := s2.2 ⟨rfl, hcw⟩
      subst hz
      obtain ⟨z, s3, s4⟩ := same_is k (c := 64) (c' := 64) (Src.of (sp := none) h57) hA.src (by omega) (by omega)
      have hz : z = true := s4.2 ⟨rfl, hcw⟩
      subst hz
      simp (disch := omega) only [Option.bind_some, Option.map_some, cond_true, cond_false, wrap_i64, tmod_pos, tdiv_pos, inRange_yes, inUpto_yes, isZero_no, decide_eq_true, decide_eq_false, Bool.not_true, Bool.not_false, Int.toNat_natCast, Nat.mul_one, beqI_yes, beqI_no, bneI_yes, bneI_no, isNil_nil, isNil_iface, wr_wr, Option.isNone_none, Option.isNone_some, plus, Nat.zero_add, Nat.add_zero, s1, s3]
      have l7 := get_lt h47
      have l57 := get_lt h57
      let D : Nat → Nat := fun i => if i = 0 then d4 else d5
      have hbox : ([.slice (some ⟨d4, 0, none⟩) 64 64, .slice (some ⟨d5, 0, none⟩) 64 64] : List Value) = sls 2 D (fun _ => 64) none := rfl
      rw [hbox]
      have hL7 := hL6.grow hA.1
      have hxd : ∀ p, (p = x ∨ p = d ∨ p = e) → ∀ j, j < 2 → p ≠ D j := fun p hp j _ => by
        show p ≠ if j = 0 then d4 else d5
        split <;> omega
      refine .bind (apart_ok k hk (cc := 2) (D := D) (nn := fun _ => 64) (L := fun _ => 64) (get_last (m := m7) rfl) ?_ ?_ ?_ ?_ (by omega)) ?_
      · intro j _
        show ∃ u, _[if j = 0 then d4 else d5]? = _
        split
        · exact ⟨_, get_grow h47⟩
        · exact ⟨_, get_grow h57⟩
      · intro j _; omega
      · intro i j hi hj hij
        show (if i = 0 then d4 else d5) ≠ (if j = 0 then d4 else d5)
        by_cases h0 : i = 0
        · rw [if_pos h0, if_neg (by omega)]; omega
        · rw [if_neg h0, if_pos (by omega)]; omega
      · intro i hi
        show (if i = 0 then d4 else d5) ≠ _
        split <;> omega
      · rintro ⟨_, m8⟩ ⟨rfl, hl8, hf8⟩
        simp only at hl8 hf8 ⊢
        have g8 : ∀ p o, (p = x ∨ p = d ∨ p = e) → m7[p]? = some o → m8[p]? = some o := fun p o hp ho => by
          rw [hf8 p (by have := get_lt ho; simp; omega) (hxd p hp)]; exact get_grow ho
        have hL8 : Lent m8 x d e 58 u' := ⟨hL7.xd, hL7.xe, hL7.de, g8 _ _ (.inl rfl) hL7.x_, g8 _ _ (.inr (.inl rfl)) hL7.d_, g8 _ _ (.inr (.inr rfl)) hL7.e_⟩
        have k2 := kept_is k hL8 hk2 (by omega)
        simp (disch := omega) only [Option.bind_some, Option.map_some, cond_true, cond_false, wrap_i64, tmod_pos, tdiv_pos, inRange_yes, inUpto_yes, isZero_no, decide_eq_true, decide_eq_false, Bool.not_true, Bool.not_false, Int.toNat_natCast, Nat.mul_one, beqI_yes, beqI_no, bneI_yes, bneI_no, isNil_nil, isNil_iface, wr_wr, Option.isNone_none, Option.isNone_some, plus, Nat.zero_add, Nat.add_zero, k2]
        exact .some rfl
    · have e1 := encode_no k hk (hC.grow hg3) (a := some ⟨d, 0, some 1⟩) (cc := n0 + 5) hn
      have k1 := kept_is k hL hk2 (by omega)
      have n58 : (((n0 : Nat) : Int) != 58) = true := bneI_yes (by omega)
      have e10 : ifEq tt (errC 1) (.iface ty_api_Code (.int .i64 1)) = some true := by rw [ifEq_errC 1 1 (by omega)]; rfl
      have z0 : (((0 : Nat) : Int) == 0) = true := rfl
      simp (disch := omega) only [Option.bind_some, Option.map_some, cond_true, cond_false, wrap_i64, tmod_pos, tdiv_pos, inRange_yes, inUpto_yes, isZero_no, decide_eq_true, decide_eq_false, Bool.not_true, Bool.not_false, Int.toNat_natCast, Nat.mul_one, beqI_yes, beqI_no, bneI_yes, bneI_no, isNil_nil, isNil_iface, wr_wr, Option.isNone_none, Option.isNone_some, plus, Nat.zero_add, Nat.add_zero, e1, b1, k1, n58, e10, z0]
      exact .some rfl
  obtain ⟨⟨r, m'⟩, h1, h2⟩ := key
  exact ⟨m', by rw [h1]; simp only at h2; rw [h2]⟩
end Go.Proofs.Ytoljgolgecbcdaa
