/- RsRoots: a codeword's sums are noughts, of no other word; the sum of two codewords is one; a word is one just if Encode of its message is it. For every two lists of bytes and every list of turns. -/
import Derived.Test.YtoljgolgecbcdabRsM
import Derived.Test.YtoljgolgecbcdabRsA
import Derived.Test.YtoljgolgecbcdabFLRsRoots
set_option linter.unusedVariables false
set_option linter.unusedSectionVars false
set_option linter.unusedSimpArgs false
namespace Go.Proofs.Ytoljgolgecbcdab
open Go.Mx

/-- the field's functions in a memory where the field was made or not -/
theorem fldOne (k : Nat) (hk : 1000 < k) {m : Mem} {f : Nat} {b : Bool} (h : m[f]? = some (.live (cond b fldR fldZ))) (j : Nat) (hj : j < 1000000) : field_Field_Exp k (some ⟨f, 0, none⟩) (j : Int) m = some (((GF.pw j).v : Int), wr m f fldR) := by
  cases b with
  | false => exact exp_first k (by omega) h j hj
  | true =>
    have h' : m[f]? = some (.live fldR) := h
    rw [wr_same h']; exact exp_is k h' j hj

set_option maxHeartbeats 4000000 in
theorem rsRoots_run (o0 o1 o2 : MObj) (a0 : Option Addr) (n0 c0 : Nat) (cs0 : List Value) (a1 : Option Addr) (n1 c1 : Nat) (cs1 : List Value) (a2 : Option Addr) (n2 c2 : Nat) (cs2 : List Value) (hh0 : Holds o0 0 a0 n0 [.int .u8] cs0) (hc0 : n0 ≤ c0) (y0 : n0 * 1 ≤ 140737488351232) (hh1 : Holds o1 1 a1 n1 [.int .u8] cs1) (hc1 : n1 ≤ c1) (y1 : n1 * 1 ≤ 140737488351232) (hh2 : Holds o2 2 a2 n2 [.int .i64, .int .u8] cs2) (hc2 : n2 ≤ c2) (y2 : n2 * 16 ≤ 140737488351232) :
    ∃ k m', patinalaw02_RsRoots k a0 n0 c0 a1 n1 c1 a2 n2 c2 [o0, o1, o2] = some (true, m') := by
  obtain ⟨w0, hw0⟩ := holds_src (m := [o0, o1, o2]) hh0 rfl
  obtain ⟨w1, hw1⟩ := holds_src (m := [o0, o1, o2]) hh1 rfl
  obtain ⟨k, hk, hk2⟩ : ∃ k, 1000 < k ∧ n2 < k := ⟨n2 + 1001, by omega, by omega⟩
  refine ⟨k, ?_⟩
  have key : Ok (patinalaw02_RsRoots k a0 n0 c0 a1 n1 c1 a2 n2 c2 [o0, o1, o2]) fun r => r.1 = true := by
    unfold patinalaw02_RsRoots
    refine .bind (shown_ok k hk _) ?_
    rintro ⟨_, m1⟩ ⟨rfl, hg1⟩
    refine .bind (rsNew_ok k hk m1) ?_
    rintro ⟨_, m2⟩ ⟨c, rfl, hg2, _, hC⟩
    simp only at hg1 hg2 hC ⊢
    have hf3 := get_last (m := m2) (o := .live fldZ) rfl
    have hG3 := (hg1.trans hg2).trans (Gr.app m2 [.live fldZ])
    have hC3 := hC.grow (Gr.app m2 [.live fldZ])
    simp (disch := omega) only [Option.bind_some, Option.map_some, cond_true, cond_false, wrap_i64, tmod_pos, tdiv_pos, inRange_yes, inUpto_yes, isZero_no, decide_eq_true, decide_eq_false, Bool.not_true, Bool.not_false, Int.toNat_natCast, Nat.mul_one, beqI_yes, beqI_no, bneI_yes, bneI_no, isNil_nil, isNil_iface, wr_wr, Option.isNone_none, Option.isNone_some, plus, Nat.zero_add, Nat.add_zero, fieldNew_is]
    generalize hf : m2.length = f at *
    generalize hm3 : m2 ++ [MObj.live fldZ] = m3 at *
    have hf3l : f < m3.length := get_lt hf3
    have e1 := message_is k hk (c := c0) (hw0.grow hG3)
    have hg4 : Gr m3 (m3 ++ [.live (bys 58 (pad n0 w0))]) := Gr.app _ _
    have hl4 := get_last (m := m3) (o := .live (bys 58 (pad n0 w0))) rfl
    simp (disch := omega) only [Option.bind_some, Option.map_some, cond_true, cond_false, wrap_i64, tmod_pos, tdiv_pos, inRange_yes, inUpto_yes, isZero_no, decide_eq_true, decide_eq_false, Bool.not_true, Bool.not_false, Int.toNat_natCast, Nat.mul_one, beqI_yes, beqI_no, bneI_yes, bneI_no, isNil_nil, isNil_iface, wr_wr, Option.isNone_none, Option.isNone_some, plus, Nat.zero_add, Nat.add_zero, e1]
    refine .bind (encode_ok k hk (hC3.grow hg4) (cc := 58) (Src.of (sp := none) hl4)) ?_
    rintro ⟨_, _, m5⟩ ⟨d5, rfl, rfl, hg5, _, h5⟩
    simp only at hg5 h5 ⊢
    have hG5 := hG3.trans (hg4.trans hg5)
    have e2 := message_is k hk (c := c1) (hw1.grow hG5)
    have hg6 : Gr m5 (m5 ++ [.live (bys 58 (pad n1 w1))]) := Gr.app _ _
    have hl6 := get_last (m := m5) (o := .live (bys 58 (pad n1 w1))) rfl
    simp (disch := omega) only [Option.bind_some, Option.map_some, cond_true, cond_false, wrap_i64, tmod_pos, tdiv_pos, inRange_yes, inUpto_yes, isZero_no, decide_eq_true, decide_eq_false, Bool.not_true, Bool.not_false, Int.toNat_natCast, Nat.mul_one, beqI_yes, beqI_no, bneI_yes, bneI_no, isNil_nil, isNil_iface, wr_wr, Option.isNone_none, Option.isNone_some, plus, Nat.zero_add, Nat.add_zero, e2]
    refine .bind (encode_ok k hk (hC3.grow ((hg4.trans hg5).trans hg6)) (cc := 58) (Src.of (sp := none) hl6)) ?_
    rintro ⟨_, _, m7⟩ ⟨d7, rfl, rfl, hg7, _, h7⟩
    simp only at hg7 h7 ⊢
    have hG7 := hg6.trans hg7
    have hG37 := (hg4.trans hg5).trans hG7
    have n64 : (((64 : Nat) : Int) != 64) = false := rfl
    simp (disch := omega) only [Option.bind_some, Option.map_some, cond_true, cond_false, wrap_i64, tmod_pos, tdiv_pos, inRange_yes, inUpto_yes, isZero_no, decide_eq_true, decide_eq_false, Bool.not_true, Bool.not_false, Int.toNat_natCast, Nat.mul_one, beqI_yes, beqI_no, bneI_yes, bneI_no, isNil_nil, isNil_iface, wr_wr, Option.isNone_none, Option.isNone_some, plus, Nat.zero_add, Nat.add_zero, n64]
    have cv := GF.cw_code gC_gen (pad n0 w0)
    have cw := GF.cw_code gC_gen (pad n1 w1)
    generalize GF.cw gC (pad n0 w0) = v at *
    generalize GF.cw gC (pad n1 w1) = w at *
    have csum : GF.Code fun i => v i + w i := cv.add cw
    have sv := Src.of (sp := none) (hG7.get h5)
    have sw := Src.of (sp := none) h7
    refine patinalaw02_RsRoots_l0_rule k _ (fun r x2a x2n x2c x7 x8 x9 x10a x10n x10c x12a x12n x12c x14a x14n x14c x15 m' => a2 = x2a ∧ n2 = x2n ∧ c2 = x2c ∧ true = x7 ∧ (some ⟨c, 0, none⟩ : Option Addr) = x8 ∧ (some ⟨f, 0, none⟩ : Option Addr) = x9 ∧ (some ⟨d5, 0, none⟩ : Option Addr) = x10a ∧ 64 = x10n ∧ 64 = x10c ∧ (some ⟨d7, 0, none⟩ : Option Addr) = x12a ∧ 64 = x12n ∧ 64 = x12c ∧
      ∃ j : Nat, j = x14n ∧ j = x14c ∧ x15 = j ∧ j + r = 64 ∧ Ab m7 m' x14a j fun i => v i + w i) ?_ k 64 _ _ _ _ _ _ _ _ _ _ _ _ _ _ _ _ _ (by omega)
      ⟨rfl, rfl, rfl, rfl, rfl, rfl, rfl, rfl, rfl, rfl, rfl, rfl, 0, rfl, rfl, rfl, by omega, Ab.nil _ _⟩
    rintro r nx _ _ _ _ _ _ _ _ _ _ _ _ x14a _ _ _ m8 ⟨rfl, rfl, rfl, rfl, rfl, rfl, rfl, rfl, rfl, rfl, rfl, rfl, j, rfl, rfl, rfl, hr, hA⟩ hnx
    unfold patinalaw02_RsRoots_l0_b
    by_cases hj : (j : Int) < 64
    · have f1 := bys_ld (sp := none) (hA.1.get (hG7.get h5)) (i := j) (by omega)
      have f2 := bys_ld (sp := none) (hA.1.get h7) (i := j) (by omega)
      obtain ⟨a', m9, f3, hA2⟩ := hA.one (v j + w j) (by unfold most; omega)
      simp (disch := omega) only [Option.bind_some, Option.map_some, cond_true, cond_false, wrap_i64, tmod_pos, tdiv_pos, inRange_yes, inUpto_yes, isZero_no, decide_eq_true, decide_eq_false, Bool.not_true, Bool.not_false, Int.toNat_natCast, Nat.mul_one, beqI_yes, beqI_no, bneI_yes, bneI_no, isNil_nil, isNil_iface, wr_wr, Option.isNone_none, Option.isNone_some, plus, Nat.zero_add, Nat.add_zero, f1, f2, xor_v, rdSl_new, f3]
      exact hnx (r - 1) _ _ _ _ _ _ _ _ _ _ _ _ _ _ _ _ _ (by omega) ⟨rfl, rfl, rfl, rfl, rfl, rfl, rfl, rfl, rfl, rfl, rfl, rfl, j + 1, rfl, rfl, by omega, by omega, hA2.congr fun i hi => by
        unfold put
        by_cases h3 : i = j
        · rw [if_pos h3, h3]
        · rw [if_neg h3]⟩
    · obtain rfl : j = 64 := by omega
      clear hnx
      simp (disch := omega) only [Option.bind_some, Option.map_some, cond_true, cond_false, wrap_i64, tmod_pos, tdiv_pos, inRange_yes, inUpto_yes, isZero_no, decide_eq_true, decide_eq_false, Bool.not_true, Bool.not_false, Int.toNat_natCast, Nat.mul_one, beqI_yes, beqI_no, bneI_yes, bneI_no, isNil_nil, isNil_iface, wr_wr, Option.isNone_none, Option.isNone_some, plus, Nat.zero_add, Nat.add_zero]
      generalize (fun i => v i + w i) = s at *
      have hG8 := hG37.trans hA.1
      refine .bind (damage_ok k hk hA.src (cc := 64) hh2 (hG8.get (hG3.get rfl)) (by omega) y2) ?_
      rintro ⟨_, _, m9⟩ ⟨d9, x, rfl, rfl, hg9, hd9, h9⟩
      simp only at hg9 h9 ⊢
      have hG9 := hG8.trans hg9
      refine .bind (synd_ok k hk (hC3.grow hG9) (cc := 64) (Src.of (sp := some 1) h9)) ?_
      rintro ⟨_, _, m10⟩ ⟨d10, rfl, rfl, hg10, hd10, h10⟩
      simp only at hg10 h10 ⊢
      have u58 : inUpto 58 64 = true := rfl
      have t58 : Int.toNat 58 = 58 := rfl
      have hcl : sliceK.clear (some ⟨d9, 0, some 1⟩) false = some ⟨d9, 0, some 1⟩ := rfl
      simp (disch := omega) only [Option.bind_some, Option.map_some, cond_true, cond_false, wrap_i64, tmod_pos, tdiv_pos, inRange_yes, inUpto_yes, isZero_no, decide_eq_true, decide_eq_false, Bool.not_true, Bool.not_false, Int.toNat_natCast, Nat.mul_one, beqI_yes, beqI_no, bneI_yes, bneI_no, isNil_nil, isNil_iface, wr_wr, Option.isNone_none, Option.isNone_some, plus, Nat.zero_add, Nat.add_zero, u58, t58, hcl]
      refine .bind (encode_ok k hk (hC3.grow (hG9.trans hg10)) (cc := 64) (Src.take (sp := some 1) (hg10.get h9) (l := 58) (by omega))) ?_
      rintro ⟨_, _, m11⟩ ⟨d11, rfl, rfl, hg11, hd11, h11⟩
      simp only at hg11 h11 ⊢
      have n6 : (((6 : Nat) : Int) != 6) = false := rfl
      have hf11 := (hG9.trans (hg10.trans hg11)).get hf3
      have l3 := hG8.len
      have l9 := hg9.len
      have l10 := hg10.len
      simp (disch := omega) only [Option.bind_some, Option.map_some, cond_true, cond_false, wrap_i64, tmod_pos, tdiv_pos, inRange_yes, inUpto_yes, isZero_no, decide_eq_true, decide_eq_false, Bool.not_true, Bool.not_false, Int.toNat_natCast, Nat.mul_one, beqI_yes, beqI_no, bneI_yes, bneI_no, isNil_nil, isNil_iface, wr_wr, Option.isNone_none, Option.isNone_some, plus, Nat.zero_add, Nat.add_zero, n6]
      refine patinalaw02_RsRoots_l2_rule k _ _ (fun r x7 x9 x16a x16n x16c x17 x18a x18n x18c x20a x20n x20c x22 x23 m' => true = x7 ∧ (some ⟨f, 0, none⟩ : Option Addr) = x9 ∧ (some ⟨d9, 0, some 1⟩ : Option Addr) = x16a ∧ 64 = x16n ∧ 64 = x16c ∧ (GF.df x s : Int) = x17 ∧ (some ⟨d10, 0, some 1⟩ : Option Addr) = x18a ∧ 6 = x18n ∧ 6 = x18c ∧ (some ⟨d11, 0, none⟩ : Option Addr) = x20a ∧ 64 = x20n ∧ 64 = x20c ∧
        ∃ (j : Nat) (b : Bool), x23 = j ∧ j + r = 6 ∧ m' = wr m11 f (cond b fldR fldZ) ∧ (x22 = true ↔ ∀ i, i < j → GF.syn x i = 0)) ?_ k 6 _ _ _ _ _ _ _ _ _ _ _ _ _ _ _ (by omega)
        ⟨rfl, rfl, rfl, rfl, rfl, rfl, rfl, rfl, rfl, rfl, rfl, rfl, 0, false, rfl, by omega, (wr_same hf11).symm, ⟨fun _ i hi => by omega, fun _ => rfl⟩⟩
      rintro r' nx' _ _ _ _ _ _ _ _ _ _ _ _ x22 _ _ ⟨rfl, rfl, rfl, rfl, rfl, rfl, rfl, rfl, rfl, rfl, rfl, rfl, j, b, rfl, hr', rfl, hnone⟩ hnx'
      unfold patinalaw02_RsRoots_l2_b
      have q9 : ∀ z : List Value, (wr m11 f z)[d9]? = some (.live (bys 64 x)) := fun z => by rw [wr_ne (by omega)]; exact hg11.get (hg10.get h9)
      have q10 : ∀ z : List Value, (wr m11 f z)[d10]? = some (.live (bys 6 (GF.syn x))) := fun z => by rw [wr_ne (by omega)]; exact hg11.get h10
      have q11 : ∀ z : List Value, (wr m11 f z)[d11]? = some (.live (bys 64 (GF.cw gC x))) := fun z => by rw [wr_ne (by omega)]; exact h11
      by_cases hj2 : (j : Int) < 6
      · have p0 := wr_get (cs := cond b fldR fldZ) hf11
        have p1 := fldOne k hk p0 j (by omega)
        rw [wr_wr] at p1
        have p2 := eval_is k (wr_get (cs := fldR) hf11) (c := 64) (Src.of (sp := some 1) (q9 fldR)) (by omega) (by omega) (GF.pw j)
        rw [GF.syn_hor] at p2
        have p3 := bys_ld (sp := some 1) (q10 (cond b fldR fldZ)) (i := j) (by omega)
        have p4 := bys_ld (sp := some 1) (q10 fldR) (i := j) (by omega)
        have hb : (((GF.syn x j).v : Int) != ((GF.syn x j).v : Int)) = false := bneI_no rfl
        have next : ∀ z : Bool, (z = true ↔ ∀ i, i < j + 1 → GF.syn x i = 0) → Ok (patinalaw02_RsRoots_j1 k true (some ⟨f, 0, none⟩) (some ⟨d9, 0, some 1⟩) 64 64 (GF.df x s : Int) (some ⟨d10, 0, some 1⟩) 6 6 (some ⟨d11, 0, none⟩) 64 64 j nx' z (wr m11 f fldR)) fun r => r.1 = true := by
          intro z hz
          unfold patinalaw02_RsRoots_j1
          simp (disch := omega) only [Option.bind_some, Option.map_some, cond_true, cond_false, wrap_i64, tmod_pos, tdiv_pos, inRange_yes, inUpto_yes, isZero_no, decide_eq_true, decide_eq_false, Bool.not_true, Bool.not_false, Int.toNat_natCast, Nat.mul_one, beqI_yes, beqI_no, bneI_yes, bneI_no, isNil_nil, isNil_iface, wr_wr, Option.isNone_none, Option.isNone_some, plus, Nat.zero_add, Nat.add_zero]
          exact hnx' (r' - 1) _ _ _ _ _ _ _ _ _ _ _ _ _ _ _ (by omega) ⟨rfl, rfl, rfl, rfl, rfl, rfl, rfl, rfl, rfl, rfl, rfl, rfl, j + 1, true, by omega, by omega, rfl, hz⟩
        have hi6 : inRange (j : Int) 6 = true := inRange_yes (by omega) (by omega)
        cases x22 with
        | true =>
          have h0 := hnone.1 rfl
          simp (disch := omega) only [Option.bind_some, Option.map_some, cond_true, cond_false, wrap_i64, tmod_pos, tdiv_pos, inRange_yes, inUpto_yes, isZero_no, decide_eq_true, decide_eq_false, Bool.not_true, Bool.not_false, Int.toNat_natCast, Nat.mul_one, beqI_yes, beqI_no, bneI_yes, bneI_no, isNil_nil, isNil_iface, wr_wr, Option.isNone_none, Option.isNone_some, plus, Nat.zero_add, Nat.add_zero, hi6, p3, p1, p2, p4, beq_self_eq_true, hb]
          refine next _ ?_
          rw [v_beq0, decide_eq_true_eq]
          constructor
          · intro h1 i hi
            by_cases h2 : i = j
            · rw [h2]; exact h1
            · exact h0 i (by omega)
          · exact fun h1 => h1 j (by omega)
        | false =>
          simp (disch := omega) only [Option.bind_some, Option.map_some, cond_true, cond_false, wrap_i64, tmod_pos, tdiv_pos, inRange_yes, inUpto_yes, isZero_no, decide_eq_true, decide_eq_false, Bool.not_true, Bool.not_false, Int.toNat_natCast, Nat.mul_one, beqI_yes, beqI_no, bneI_yes, bneI_no, isNil_nil, isNil_iface, wr_wr, Option.isNone_none, Option.isNone_some, plus, Nat.zero_add, Nat.add_zero, hi6, p3, p1, p2, p4, beq_self_eq_true, hb]
          refine next _ ⟨fun h => (by cases h), fun h => ?_⟩
          exact hnone.2 fun i hi => h i (by omega)
      · obtain rfl : j = 6 := by omega
        obtain ⟨z, e8, e9⟩ := same_is k (c := 64) (c' := 64) (Src.of (sp := none) (q11 (cond b fldR fldZ))) (Src.of (sp := some 1) (q9 (cond b fldR fldZ))) (by omega) (by omega)
        have hzc : z = true ↔ GF.Code x := by
          rw [e9]
          constructor
          · rintro ⟨_, h⟩
            exact (GF.cw_code gC_gen x).congr fun i hi => (h i hi).symm
          · exact fun h => ⟨rfl, fun i hi => (h.own gC_gen i hi).symm⟩
        have hxz : x22 = z := by
          have : x22 = true ↔ z = true := hnone.trans hzc.symm
          cases x22 <;> cases z <;> simp_all
        subst hxz
        have hnear : x22 = true → GF.df x s ≤ 6 → GF.df x s = 0 := fun h1 h2 => by
          have h3 := (hzc.1 h1).near csum h2
          exact GF.df_self h3
        have hself : GF.df x s = 0 → x22 = true := fun h1 => hzc.2 (csum.congr (GF.df_zero h1))
        generalize GF.df x s = D at *
        simp (disch := omega) only [Option.bind_some, Option.map_some, cond_true, cond_false, wrap_i64, tmod_pos, tdiv_pos, inRange_yes, inUpto_yes, isZero_no, decide_eq_true, decide_eq_false, Bool.not_true, Bool.not_false, Int.toNat_natCast, Nat.mul_one, beqI_yes, beqI_no, bneI_yes, bneI_no, isNil_nil, isNil_iface, wr_wr, Option.isNone_none, Option.isNone_some, plus, Nat.zero_add, Nat.add_zero, e8, beq_self_eq_true]
        by_cases hD0 : D = 0
        · have hx := hself hD0
          subst hx; subst hD0
          have z0 : decide (((0 : Nat) : Int) > 0) = false := rfl
          have z1 : (((0 : Nat) : Int) == 0) = true := rfl
          simp (disch := omega) only [Option.bind_some, Option.map_some, cond_true, cond_false, wrap_i64, tmod_pos, tdiv_pos, inRange_yes, inUpto_yes, isZero_no, decide_eq_true, decide_eq_false, Bool.not_true, Bool.not_false, Int.toNat_natCast, Nat.mul_one, beqI_yes, beqI_no, bneI_yes, bneI_no, isNil_nil, isNil_iface, wr_wr, Option.isNone_none, Option.isNone_some, plus, Nat.zero_add, Nat.add_zero, z0, z1]
          exact .some rfl
        · rw [decide_eq_true (show (D : Int) > 0 by omega), cond_true, beqI_no (show (D : Int) ≠ 0 by omega), cond_false]
          by_cases hD6 : D ≤ 6
          · rw [decide_eq_false (show ¬ (D : Int) > 6 by omega), cond_false]
            cases x22 with
            | true => exact absurd (hnear rfl hD6) hD0
            | false => exact .some rfl
          · rw [decide_eq_true (show (D : Int) > 6 by omega), cond_true]
            exact .some rfl
  obtain ⟨⟨r, m'⟩, h1, h2⟩ := key
  exact ⟨m', by rw [h1]; simp only at h2; rw [h2]⟩
end Go.Proofs.Ytoljgolgecbcdab
