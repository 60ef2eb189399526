/- What the laws' helpers do: damage. -/
import Derived.Test.YtoljgolgecbcdabRsL
set_option linter.unusedVariables false
set_option linter.unusedSectionVars false
set_option linter.unusedSimpArgs false
namespace Go.Proofs.Ytoljgolgecbcdab
open Go.Mx

theorem pick02_is (k : Nat) (v n : Int) (m : Mem) (hv : -9223372036854775808 ≤ v ∧ v < 9223372036854775808) (hn : 0 < n) : ∃ r : Nat, patinalaw02_pick k v n m = some ((r : Int), m) ∧ (r : Int) < n := by
  have key : ∃ r : Int, patinalaw02_pick k v n m = some (r, m) ∧ 0 ≤ r ∧ r < n := by
    unfold patinalaw02_pick patinalaw02_pick_j1
    by_cases h : v < 0
    · simp (disch := omega) only [Option.bind_some, Option.map_some, cond_true, cond_false, wrap_i64, tmod_pos, tdiv_pos, inRange_yes, inUpto_yes, isZero_no, decide_eq_true, decide_eq_false, Bool.not_true, Bool.not_false, Int.toNat_natCast, Nat.mul_one, beqI_yes, beqI_no, bneI_yes, bneI_no, isNil_nil, isNil_iface, wr_wr, Option.isNone_none, Option.isNone_some, plus, Nat.zero_add, Nat.add_zero]
      exact ⟨_, rfl, Int.emod_nonneg _ (by omega), Int.emod_lt_of_pos _ hn⟩
    · simp (disch := omega) only [Option.bind_some, Option.map_some, cond_true, cond_false, wrap_i64, tmod_pos, tdiv_pos, inRange_yes, inUpto_yes, isZero_no, decide_eq_true, decide_eq_false, Bool.not_true, Bool.not_false, Int.toNat_natCast, Nat.mul_one, beqI_yes, beqI_no, bneI_yes, bneI_no, isNil_nil, isNil_iface, wr_wr, Option.isNone_none, Option.isNone_some, plus, Nat.zero_add, Nat.add_zero]
      exact ⟨_, rfl, Int.emod_nonneg _ (by omega), Int.emod_lt_of_pos _ hn⟩
  obtain ⟨r, h1, h2, h3⟩ := key
  refine ⟨r.toNat, ?_, by omega⟩
  rw [h1, Int.toNat_of_nonneg h2]
theorem wf64 {z : Int} (h : (Lit.int .i64 z).wf = true) : -9223372036854775808 ≤ z ∧ z < 9223372036854775808 := by
  have e1 : IntKind.i64.min = -9223372036854775808 := rfl
  have e2 : IntKind.i64.max = 9223372036854775807 := rfl
  simp only [Lit.wf, e1, e2, Bool.and_eq_true, decide_eq_true_eq] at h
  omega
theorem wf8 {z : Int} (h : (Lit.int .u8 z).wf = true) : 0 ≤ z ∧ z < 256 := by
  have e1 : IntKind.u8.min = 0 := rfl
  have e2 : IntKind.u8.max = 255 := rfl
  simp only [Lit.wf, e1, e2, Bool.and_eq_true, decide_eq_true_eq] at h
  omega

theorem damage_ok (k : Nat) (hk : 1000 < k) {m : Mem} {a : Option Addr} {cc : Nat} {w : Nat → GF} (hw : Src m a 64 w) {o : MObj} {i : Nat} {al : Option Addr} {nl cl : Nat} {cs : List Value} (hh : Holds o i al nl [.int .i64, .int .u8] cs) (hm : m[i]? = some o) (hn : nl < k) (hb : nl * 16 ≤ 140737488351232) :
    Ok (patinalaw02_damage k a 64 cc al nl cl m) fun r => ∃ d x, r.1 = ⟨some ⟨d, 0, some 1⟩, 64, 64⟩ ∧ r.2.1 = (GF.df x w : Int) ∧ Gr m r.2.2 ∧ m.length ≤ d ∧ r.2.2[d]? = some (.live (bys 64 x)) := by
  unfold patinalaw02_damage
  have hw' : rdSl m a 64 1 = some (bys 64 w) := hw
  have e1 := appM_first (z := 1) (y := 1) (m := m) (l := 64) (new := bys 64 w) (by omega) (by unfold most; omega) (by unfold most; omega)
  simp (disch := omega) only [Option.bind_some, Option.map_some, cond_true, cond_false, wrap_i64, tmod_pos, tdiv_pos, inRange_yes, inUpto_yes, isZero_no, decide_eq_true, decide_eq_false, Bool.not_true, Bool.not_false, Int.toNat_natCast, Nat.mul_one, beqI_yes, beqI_no, bneI_yes, bneI_no, isNil_nil, isNil_iface, wr_wr, Option.isNone_none, Option.isNone_some, plus, Nat.zero_add, Nat.add_zero, hw', e1]
  refine patinalaw02_damage_l0_rule k _ (fun r x0a x0n x0c x1a x1n x1c x6a x6n x6c x7 m' => a = x0a ∧ 64 = x0n ∧ cc = x0c ∧ al = x1a ∧ nl = x1n ∧ cl = x1c ∧ (some ⟨m.length, 0, some 1⟩ : Option Addr) = x6a ∧ 64 = x6n ∧ 64 = x6c ∧ ∃ (j : Nat) (x : Nat → GF), x7 = j ∧ j + r = nl ∧ m' = m ++ [.live (bys 64 x)]) ?_ k nl _ _ _ _ _ _ _ _ _ _ _ hn
    ⟨rfl, rfl, rfl, rfl, rfl, rfl, rfl, rfl, rfl, 0, w, rfl, by omega, rfl⟩
  rintro r nx _ _ _ _ _ _ _ _ _ _ _ ⟨rfl, rfl, rfl, rfl, rfl, rfl, rfl, rfl, rfl, j, x, rfl, hr, rfl⟩ hnx
  unfold patinalaw02_damage_l0_b
  have hl := get_last (m := m) (o := .live (bys 64 x)) rfl
  by_cases hj : (j : Int) < nl
  · have hp := hh.ptr (j := j) (by omega)
    subst hp
    have r0 := hh.ldInt (get_grow (g := [.live (bys 64 x)]) hm) (j := j) (q := 0) (k := .i64) (by omega) rfl (off := j * 2) rfl
    have r1 := hh.ldInt (get_grow (g := [.live (bys 64 x)]) hm) (j := j) (q := 1) (k := .u8) (by omega) rfl (off := j * 2 + 1) rfl
    have w0 := wf64 (hh.int (j := j) (q := 0) (k := .i64) (by omega) rfl).1
    have w1 := wf8 (hh.int (j := j) (q := 1) (k := .u8) (by omega) rfl).1
    generalize intAt (cs.getD (j * [Leaf.int IntKind.i64, Leaf.int IntKind.u8].length + 0) undef) = u at *
    generalize intAt (cs.getD (j * [Leaf.int IntKind.i64, Leaf.int IntKind.u8].length + 1) undef) = v at *
    obtain ⟨p, e2, e3⟩ := pick02_is k u 64 (m ++ [.live (bys 64 x)]) w0 (by omega)
    have n64 : ((64 : Nat) : Int) = 64 := rfl
    have e4 := bys_ld (sp := some 1) hl (i := p) (by omega)
    have hv : v = ((GF.of v.toNat).v : Int) := by rw [GF.v_of (by omega)]; omega
    rw [hv] at r1
    have e5 := bys_st (sp := some 1) hl (i := p) (by omega) (x p + GF.of v.toNat)
    rw [wr_last rfl] at e5
    simp (disch := omega) only [Option.bind_some, Option.map_some, cond_true, cond_false, wrap_i64, tmod_pos, tdiv_pos, inRange_yes, inUpto_yes, isZero_no, decide_eq_true, decide_eq_false, Bool.not_true, Bool.not_false, Int.toNat_natCast, Nat.mul_one, beqI_yes, beqI_no, bneI_yes, bneI_no, isNil_nil, isNil_iface, wr_wr, Option.isNone_none, Option.isNone_some, plus, Nat.zero_add, Nat.add_zero, r0, n64, e2, e4, r1, xor_v, e5]
    exact hnx (r - 1) _ _ _ _ _ _ _ _ _ _ _ (by omega) ⟨rfl, rfl, rfl, rfl, rfl, rfl, rfl, rfl, rfl, j + 1, _, by omega, by omega, rfl⟩
  · have e2 := apart_is k (c := 64) (c' := cc) (Src.of (sp := some 1) hl) (hw.grow (Gr.app m [.live (bys 64 x)])) (by omega) (by omega) (Nat.le_refl _)
    simp (disch := omega) only [Option.bind_some, Option.map_some, cond_true, cond_false, wrap_i64, tmod_pos, tdiv_pos, inRange_yes, inUpto_yes, isZero_no, decide_eq_true, decide_eq_false, Bool.not_true, Bool.not_false, Int.toNat_natCast, Nat.mul_one, beqI_yes, beqI_no, bneI_yes, bneI_no, isNil_nil, isNil_iface, wr_wr, Option.isNone_none, Option.isNone_some, plus, Nat.zero_add, Nat.add_zero, e2]
    exact .some ⟨_, x, rfl, rfl, Gr.app _ _, Nat.le_refl _, hl⟩
end Go.Proofs.Ytoljgolgecbcdab
