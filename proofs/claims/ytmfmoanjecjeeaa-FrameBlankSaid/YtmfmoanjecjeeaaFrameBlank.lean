/- FrameBlank: of a blank tag's chunk, at most four bytes of it damaged, no body is read. For every list of bytes and every list of turns. -/
import Derived.Test.YtmfmoanjecjeeaaFr5
import Derived.Test.YtmfmoanjecjeeaaFLFrameBlank
set_option linter.unusedVariables false
set_option linter.unusedSectionVars false
set_option linter.unusedSimpArgs false
namespace Go.Proofs.Ytmfmoanjecjeeaa
open Go.Mx

theorem frameBlank_run (o0 o1 : MObj) (a0 : Option Addr) (n0 c0 : Nat) (cs0 : List Value) (a1 : Option Addr) (n1 c1 : Nat) (cs1 : List Value) (hh0 : Holds o0 0 a0 n0 [.int .u8] cs0) (hc0 : n0 ≤ c0) (y0 : n0 * 1 ≤ 140737488351232) (hh1 : Holds o1 1 a1 n1 [.int .i64, .int .u8] cs1) (hc1 : n1 ≤ c1) (y1 : n1 * 16 ≤ 140737488351232) :
    ∃ k m', patinalaw06_FrameBlank k a0 n0 c0 a1 n1 c1 [o0, o1] = some (true, m') := by
  obtain ⟨w0, hw0⟩ := holds_src (m := [o0, o1]) hh0 rfl
  obtain ⟨k, hk, hk2⟩ : ∃ k, 1000 < k ∧ n1 < k := ⟨n1 + 1001, by omega, by omega⟩
  refine ⟨k, ?_⟩
  have key : Ok (patinalaw06_FrameBlank k a0 n0 c0 a1 n1 c1 [o0, o1]) fun r => r.1 = true := by
    unfold patinalaw06_FrameBlank
    refine .bind (shown6_ok k hk _) ?_
    rintro ⟨_, m1⟩ ⟨rfl, hg1⟩
    refine .bind (frameNew_ok k hk m1) ?_
    rintro ⟨_, m2⟩ ⟨c, rfl, hg2, _, hC⟩
    simp only at hg1 hg2 hC ⊢
    have hG := hg1.trans hg2
    have e1 := fill_is k hk (c := c0) (N := 256) (hw0.grow hG) (by omega)
    rw [show ((256 : Nat) : Int) = 256 from rfl] at e1
    have hm2 : m2[1]? = some o1 := hG.get rfl
    simp (disch := omega) only [Option.bind_some, Option.map_some, cond_true, cond_false, wrap_i64, tmod_pos, tdiv_pos, inRange_yes, inUpto_yes, isZero_no, decide_eq_true, decide_eq_false, Bool.not_true, Bool.not_false, Int.toNat_natCast, Nat.mul_one, beqI_yes, beqI_no, bneI_yes, bneI_no, isNil_nil, isNil_iface, wr_wr, Option.isNone_none, Option.isNone_some, plus, Nat.zero_add, Nat.add_zero, e1]
    -- it is blanked
    refine patinalaw06_FrameBlank_l0_rule k _ (fun r x1a x1n x1c x5 x6 x7a x7n x7c x8 m' => a1 = x1a ∧ n1 = x1n ∧ c1 = x1c ∧ true = x5 ∧ (some ⟨c, 0, none⟩ : Option Addr) = x6 ∧ (some ⟨m2.length, 0, none⟩ : Option Addr) = x7a ∧ 256 = x7n ∧ 256 = x7c ∧ ∃ (j : Nat) (y : Nat → GF), x8 = j ∧ j + r = 256 ∧ 192 ≤ j ∧ m' = m2 ++ [.live (bys 256 y)] ∧ ∀ i, 192 ≤ i → i < j → y i = GF.of 255) ?_ k 64 _ _ _ _ _ _ _ _ _ _ (by omega)
      ⟨rfl, rfl, rfl, rfl, rfl, rfl, rfl, rfl, 192, _, rfl, rfl, by omega, rfl, fun i h1 h2 => by omega⟩
    rintro r nx _ _ _ _ _ _ _ _ _ _ ⟨rfl, rfl, rfl, rfl, rfl, rfl, rfl, rfl, j, y, rfl, hr, hj0, rfl, hy⟩ hnx
    unfold patinalaw06_FrameBlank_l0_b
    have hl := get_last (m := m2) (o := .live (bys 256 y)) rfl
    by_cases hj : (j : Int) < 256
    · have e2 := bys_st (sp := none) hl (i := j) (by omega) (GF.of 255)
      have e255 : ((GF.of 255).v : Int) = 255 := by decide +kernel
      rw [wr_last rfl, e255] at e2
      simp (disch := omega) only [Option.bind_some, Option.map_some, cond_true, cond_false, wrap_i64, tmod_pos, tdiv_pos, inRange_yes, inUpto_yes, isZero_no, decide_eq_true, decide_eq_false, Bool.not_true, Bool.not_false, Int.toNat_natCast, Nat.mul_one, beqI_yes, beqI_no, bneI_yes, bneI_no, isNil_nil, isNil_iface, wr_wr, Option.isNone_none, Option.isNone_some, plus, Nat.zero_add, Nat.add_zero, e2]
      refine hnx (r - 1) _ _ _ _ _ _ _ _ _ _ (by omega) ⟨rfl, rfl, rfl, rfl, rfl, rfl, rfl, rfl, j + 1, _, by omega, by omega, by omega, rfl, fun i h1 h2 => ?_⟩
      unfold put
      by_cases h3 : i = j
      · rw [if_pos h3]
      · rw [if_neg h3]; exact hy i h1 (by omega)
    · obtain rfl : j = 256 := by omega
      clear hnx hj hr
      simp (disch := omega) only [Option.bind_some, Option.map_some, cond_true, cond_false, wrap_i64, tmod_pos, tdiv_pos, inRange_yes, inUpto_yes, isZero_no, decide_eq_true, decide_eq_false, Bool.not_true, Bool.not_false, Int.toNat_natCast, Nat.mul_one, beqI_yes, beqI_no, bneI_yes, bneI_no, isNil_nil, isNil_iface, wr_wr, Option.isNone_none, Option.isNone_some, plus, Nat.zero_add, Nat.add_zero]
      have hst : GF.df (wd y 3) (fun _ => GF.of 255) ≤ 0 := Nat.le_of_eq (GF.df_self fun i hi => hy _ (by omega) (by omega))
      -- it is damaged
      refine patinalaw06_FrameBlank_l2_rule k _ (fun r x1a x1n x1c x5 x6 x7a x7n x7c x9 m' => a1 = x1a ∧ n1 = x1n ∧ c1 = x1c ∧ true = x5 ∧ (some ⟨c, 0, none⟩ : Option Addr) = x6 ∧ (some ⟨m2.length, 0, none⟩ : Option Addr) = x7a ∧ 256 = x7n ∧ 256 = x7c ∧ ∃ (j : Nat) (y : Nat → GF), x9 = j ∧ j + r = n1 ∧ j ≤ 4 ∧ m' = m2 ++ [.live (bys 256 y)] ∧ GF.df (wd y 3) (fun _ => GF.of 255) ≤ j) ?_ k n1 _ _ _ _ _ _ _ _ _ _ hk2
        ⟨rfl, rfl, rfl, rfl, rfl, rfl, rfl, rfl, 0, y, rfl, by omega, by omega, rfl, hst⟩
      clear hst hy hl y
      rintro r nx _ _ _ _ _ _ _ _ _ _ ⟨rfl, rfl, rfl, rfl, rfl, rfl, rfl, rfl, j, y, rfl, hr, hj4, rfl, hy⟩ hnx
      unfold patinalaw06_FrameBlank_l2_b
      have hl := get_last (m := m2) (o := .live (bys 256 y)) rfl
      by_cases hcont : (j : Int) < n1 ∧ (j : Int) < 4
      · obtain ⟨hj, hj2⟩ := hcont
        have hp := hh1.ptr (j := j) (by omega)
        subst hp
        have r0 := hh1.ldInt (get_grow (g := [.live (bys 256 y)]) hm2) (j := j) (q := 0) (k := .i64) (by omega) rfl (off := j * 2) rfl
        have r1 := hh1.ldInt (get_grow (g := [.live (bys 256 y)]) hm2) (j := j) (q := 1) (k := .u8) (by omega) rfl (off := j * 2 + 1) rfl
        have w0 := wf64 (hh1.int (j := j) (q := 0) (k := .i64) (by omega) rfl).1
        have w1 := wf8 (hh1.int (j := j) (q := 1) (k := .u8) (by omega) rfl).1
        generalize intAt (cs1.getD (j * [Leaf.int IntKind.i64, Leaf.int IntKind.u8].length + 0) undef) = u at *
        generalize intAt (cs1.getD (j * [Leaf.int IntKind.i64, Leaf.int IntKind.u8].length + 1) undef) = v at *
        obtain ⟨p, e2, e3⟩ := pick06_is k u 64 (m2 ++ [.live (bys 256 y)]) w0 (by omega)
        have hv : v = ((GF.of v.toNat).v : Int) := by rw [GF.v_of (by omega)]; omega
        rw [hv] at r1
        have hp6 : (192 + (p : Int)) = ((192 + p : Nat) : Int) := by omega
        have hwp : IntKind.wrap .i64 (192 + (p : Int)) = ((192 + p : Nat) : Int) := by rw [hp6, wrap_i64 (by omega) (by omega)]
        have hin : inRange ((192 + p : Nat) : Int) 256 = true := inRange_yes (by omega) (by omega)
        have e5 := bys_st (sp := none) hl (i := 192 + p) (by omega) (GF.of v.toNat)
        rw [wr_last rfl] at e5
        simp (disch := omega) only [Option.bind_some, Option.map_some, cond_true, cond_false, wrap_i64, tmod_pos, tdiv_pos, inRange_yes, inUpto_yes, isZero_no, decide_eq_true, decide_eq_false, Bool.not_true, Bool.not_false, Int.toNat_natCast, Nat.mul_one, beqI_yes, beqI_no, bneI_yes, bneI_no, isNil_nil, isNil_iface, wr_wr, Option.isNone_none, Option.isNone_some, plus, Nat.zero_add, Nat.add_zero, r0, e2, r1, hwp, hin, e5]
        refine hnx (r - 1) _ _ _ _ _ _ _ _ _ _ (by omega) ⟨rfl, rfl, rfl, rfl, rfl, rfl, rfl, rfl, j + 1, _, by omega, by omega, by omega, rfl, ?_⟩
        have hpw : wd (put y (192 + p) (GF.of v.toNat)) 3 = put (wd y 3) p (GF.of v.toNat) := by
          funext i
          unfold wd put
          by_cases h : i = p
          · rw [if_pos h, if_pos (by omega)]
          · rw [if_neg h, if_neg (by omega)]
        rw [hpw]
        have t1 := GF.df_tri (put (wd y 3) p (GF.of v.toNat)) (wd y 3) (fun _ => GF.of 255)
        have t2 := df_put (wd y 3) (i := p) (by omega) (GF.of v.toNat)
        omega
      · have hfin : ∀ (X : Option (Bool × Mem)) (Y : Option (Bool × Mem)), (bif decide ((j : Int) < ((n1 : Nat) : Int)) then (bif decide ((j : Int) < 4) then X else Y) else Y) = Y := by
          intro X Y
          by_cases h : (j : Int) < n1
          · rw [decide_eq_true h, cond_true, decide_eq_false (fun h2 => hcont ⟨h, h2⟩), cond_false]
          · rw [decide_eq_false h, cond_false]
        rw [hfin]
        refine .bind (body_ok k hk (hC.grow (Gr.app m2 [.live (bys 256 y)])) (ca := 256) (Src.of (sp := none) hl) (.inl rfl) (by omega)) ?_
        have z0 : (((0 : Nat) : Int) == 0) = true := rfl
        have z1 : ((0 : Int) == 0) = true := rfl
        rintro ⟨_, _, _, m6⟩ ⟨hg6, ⟨u, n, d, hd, hm, _⟩ | ⟨u, n, hd, hm, rfl, rfl, rfl⟩ | ⟨hd, rfl, rfl, rfl⟩⟩
        · exact absurd hm (blank_not (by omega) hd)
        · have e1 : ifEq tt (errC 6) (.iface ty_api_Code (.int .i64 5)) = some false := by rw [ifEq_errC 6 5 (by omega)]; rfl
          have e2 : ifEq tt (errC 6) (.iface ty_api_Code (.int .i64 6)) = some true := by rw [ifEq_errC 6 6 (by omega)]; rfl
          simp (disch := omega) only [Option.bind_some, Option.map_some, cond_true, cond_false, wrap_i64, tmod_pos, tdiv_pos, inRange_yes, inUpto_yes, isZero_no, decide_eq_true, decide_eq_false, Bool.not_true, Bool.not_false, Int.toNat_natCast, Nat.mul_one, beqI_yes, beqI_no, bneI_yes, bneI_no, isNil_nil, isNil_iface, wr_wr, Option.isNone_none, Option.isNone_some, plus, Nat.zero_add, Nat.add_zero, z0, z1, e1, e2]
          exact .some rfl
        · have e1 : ifEq tt (errC 5) (.iface ty_api_Code (.int .i64 5)) = some true := by rw [ifEq_errC 5 5 (by omega)]; rfl
          simp (disch := omega) only [Option.bind_some, Option.map_some, cond_true, cond_false, wrap_i64, tmod_pos, tdiv_pos, inRange_yes, inUpto_yes, isZero_no, decide_eq_true, decide_eq_false, Bool.not_true, Bool.not_false, Int.toNat_natCast, Nat.mul_one, beqI_yes, beqI_no, bneI_yes, bneI_no, isNil_nil, isNil_iface, wr_wr, Option.isNone_none, Option.isNone_some, plus, Nat.zero_add, Nat.add_zero, z0, z1, e1]
          exact .some rfl
  obtain ⟨⟨r, m'⟩, h1, h2⟩ := key
  exact ⟨m', by rw [h1]; simp only at h2; rw [h2]⟩
end Go.Proofs.Ytmfmoanjecjeeaa
