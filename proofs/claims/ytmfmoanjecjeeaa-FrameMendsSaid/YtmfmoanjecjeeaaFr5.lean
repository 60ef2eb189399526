/- What the laws' helpers of the frame do. -/
import Derived.Test.YtmfmoanjecjeeaaFr4
set_option linter.unusedVariables false
set_option linter.unusedSectionVars false
set_option linter.unusedSimpArgs false
namespace Go.Proofs.Ytmfmoanjecjeeaa
open Go.Mx

theorem pick06_is (k : Nat) (v n : Int) (m : Mem) (hv : -9223372036854775808 ≤ v ∧ v < 9223372036854775808) (hn : 0 < n) : ∃ r : Nat, patinalaw06_pick k v n m = some ((r : Int), m) ∧ (r : Int) < n := by
  have key : ∃ r : Int, patinalaw06_pick k v n m = some (r, m) ∧ 0 ≤ r ∧ r < n := by
    unfold patinalaw06_pick patinalaw06_pick_j1
    by_cases h : v < 0
    · simp (disch := omega) only [Option.bind_some, Option.map_some, cond_true, cond_false, wrap_i64, tmod_pos, tdiv_pos, inRange_yes, inUpto_yes, isZero_no, decide_eq_true, decide_eq_false, Bool.not_true, Bool.not_false, Int.toNat_natCast, Nat.mul_one, beqI_yes, beqI_no, bneI_yes, bneI_no, isNil_nil, isNil_iface, wr_wr, Option.isNone_none, Option.isNone_some, plus, Nat.zero_add, Nat.add_zero]
      exact ⟨_, rfl, Int.emod_nonneg _ (by omega), Int.emod_lt_of_pos _ hn⟩
    · simp (disch := omega) only [Option.bind_some, Option.map_some, cond_true, cond_false, wrap_i64, tmod_pos, tdiv_pos, inRange_yes, inUpto_yes, isZero_no, decide_eq_true, decide_eq_false, Bool.not_true, Bool.not_false, Int.toNat_natCast, Nat.mul_one, beqI_yes, beqI_no, bneI_yes, bneI_no, isNil_nil, isNil_iface, wr_wr, Option.isNone_none, Option.isNone_some, plus, Nat.zero_add, Nat.add_zero]
      exact ⟨_, rfl, Int.emod_nonneg _ (by omega), Int.emod_lt_of_pos _ hn⟩
  obtain ⟨r, h1, h2, h3⟩ := key
  refine ⟨r.toNat, ?_, by omega⟩
  rw [h1, Int.toNat_of_nonneg h2]
theorem wf64 {z : Int} (h : (Lit.int .i64 z).wf = true) : -9223372036854775808 ≤ z ∧ z < 9223372036854775808 := by
  have e1 : IntKind.i64.min = -9223372036854775808 := rfl
  have e2 : IntKind.i64.max = 9223372036854775807 := rfl
  simp only [Lit.wf, e1, e2, Bool.and_eq_true, decide_eq_true_eq] at h
  omega
theorem wf8 {z : Int} (h : (Lit.int .u8 z).wf = true) : 0 ≤ z ∧ z < 256 := by
  have e1 : IntKind.u8.min = 0 := rfl
  have e2 : IntKind.u8.max = 255 := rfl
  simp only [Lit.wf, e1, e2, Bool.and_eq_true, decide_eq_true_eq] at h
  omega

theorem fill_is (k : Nat) (hk : 1000 < k) {m : Mem} {a : Option Addr} {n c N : Nat} {w : Nat → GF} (hw : Src m a n w) (hN : N < 1000) :
    patinalaw06_fill k a n c N m = some (⟨some ⟨m.length, 0, none⟩, N, N⟩, m ++ [.live (bys N (pad n w))]) := by
  have key : Ok (patinalaw06_fill k a n c N m) fun r => r = (⟨some ⟨m.length, 0, none⟩, N, N⟩, m ++ [.live (bys N (pad n w))]) := by
    unfold patinalaw06_fill
    have hby : (((tt 5).bytes : Nat) : Int) = 1 := rfl
    have hmo : ((most : Nat) : Int) = 140737488355328 := rfl
    have hcond : (decide ((0 : Int) ≤ (N : Int)) && decide ((N : Int) ≤ (N : Int)) && decide ((N : Int) * (((tt 5).bytes : Nat) : Int) ≤ ((most : Nat) : Int)) && decide ((N : Int) ≤ ((most : Nat) : Int))) = true := by
      simp only [hby, hmo, Bool.and_eq_true, decide_eq_true_eq]; omega
    rw [hcond, cond_true]
    simp (disch := omega) only [Option.bind_some, Option.map_some, cond_true, cond_false, wrap_i64, tmod_pos, tdiv_pos, inRange_yes, inUpto_yes, isZero_no, decide_eq_true, decide_eq_false, Bool.not_true, Bool.not_false, Int.toNat_natCast, Nat.mul_one, beqI_yes, beqI_no, bneI_yes, bneI_no, isNil_nil, isNil_iface, wr_wr, Option.isNone_none, Option.isNone_some, plus, Nat.zero_add, Nat.add_zero, bys_zero]
    refine patinalaw06_fill_l0_rule k _ (fun r x0a x0n x0c x1 x3a x3n x3c x4 m' => a = x0a ∧ n = x0n ∧ c = x0c ∧ (N : Int) = x1 ∧ (some ⟨m.length, 0, none⟩ : Option Addr) = x3a ∧ N = x3n ∧ N = x3c ∧ ∃ j : Nat, x4 = j ∧ j + r = N ∧ m' = m ++ [.live (bys N fun i => if i < j then pad n w i else 0)]) ?_ k N _ _ _ _ _ _ _ _ _ (by omega)
      ⟨rfl, rfl, rfl, rfl, rfl, rfl, rfl, 0, rfl, by omega, by rw [bys_congr (u := fun i => if i < 0 then pad n w i else 0) (w := fun _ => 0) fun i hi => if_neg (by omega)]⟩
    rintro r nx _ _ _ _ _ _ _ _ _ ⟨rfl, rfl, rfl, rfl, rfl, rfl, rfl, j, rfl, hr, rfl⟩ hnx
    unfold patinalaw06_fill_l0_b
    by_cases hj : (j : Int) < (N : Int)
    · by_cases hj2 : (j : Int) < n
      · obtain ⟨ad, rfl, e1⟩ := (hw.grow (Gr.app m [.live (bys N fun i => if i < j then pad n w i else 0)])).ld (i := j) (by omega)
        unfold plus at e1
        have e2 := bys_st (sp := none) (get_last (m := m) (o := .live (bys N fun i => if i < j then pad n w i else 0)) rfl) (i := j) (by omega) (w j)
        rw [wr_last rfl, pad_step (by omega)] at e2
        simp (disch := omega) only [Option.bind_some, Option.map_some, cond_true, cond_false, wrap_i64, tmod_pos, tdiv_pos, inRange_yes, inUpto_yes, isZero_no, decide_eq_true, decide_eq_false, Bool.not_true, Bool.not_false, Int.toNat_natCast, Nat.mul_one, beqI_yes, beqI_no, bneI_yes, bneI_no, isNil_nil, isNil_iface, wr_wr, Option.isNone_none, Option.isNone_some, plus, Nat.zero_add, Nat.add_zero, e1, e2]
        exact hnx (r - 1) _ _ _ _ _ _ _ _ _ (by omega) ⟨rfl, rfl, rfl, rfl, rfl, rfl, rfl, j + 1, by omega, by omega, rfl⟩
      · simp (disch := omega) only [Option.bind_some, Option.map_some, cond_true, cond_false, wrap_i64, tmod_pos, tdiv_pos, inRange_yes, inUpto_yes, isZero_no, decide_eq_true, decide_eq_false, Bool.not_true, Bool.not_false, Int.toNat_natCast, Nat.mul_one, beqI_yes, beqI_no, bneI_yes, bneI_no, isNil_nil, isNil_iface, wr_wr, Option.isNone_none, Option.isNone_some, plus, Nat.zero_add, Nat.add_zero]
        exact .some (by rw [pad_end (by omega)])
    · simp (disch := omega) only [Option.bind_some, Option.map_some, cond_true, cond_false, wrap_i64, tmod_pos, tdiv_pos, inRange_yes, inUpto_yes, isZero_no, decide_eq_true, decide_eq_false, Bool.not_true, Bool.not_false, Int.toNat_natCast, Nat.mul_one, beqI_yes, beqI_no, bneI_yes, bneI_no, isNil_nil, isNil_iface, wr_wr, Option.isNone_none, Option.isNone_some, plus, Nat.zero_add, Nat.add_zero]
      exact .some (by rw [pad_end (by omega)])
  obtain ⟨r, h1, rfl⟩ := key
  exact h1

/-! ## distances -/
theorem df_put (y : Nat → GF) {i : Nat} (hi : i < 64) (b : GF) : GF.df (put y i b) y ≤ 1 := by
  by_cases h : b = y i
  · rw [GF.df_self fun j _ => by unfold put; split <;> simp_all]; omega
  · refine Nat.le_of_eq (GF.wt_single (i0 := i) hi ?_ fun j hj hne => ?_)
    · show put y i b i + y i ≠ 0
      unfold put; rw [if_pos rfl]
      exact fun h0 => h (GF.add_eq_zero.1 h0)
    · show put y i b j + y j = 0
      unfold put; rw [if_neg hne, GF.add_self]
def ind8 : Nat → GF := fun j => if 50 ≤ j ∧ j < 58 then 1 else 0
theorem ind8_wt : GF.wt ind8 64 = 8 := by decide +kernel
theorem mrk_ff : (List.range 8).all (fun i => mrk i != GF.of 255) = true := by decide +kernel
/-- what is marked is far from what is blank -/
theorem marked_far {u : Nat → GF} (h : marked u) : 8 ≤ GF.df u fun _ => GF.of 255 := by
  rw [← ind8_wt]
  refine GF.wt_le fun i hi h0 => ?_
  unfold ind8
  split
  · rename_i hr
    exfalso
    have h1 := h (i - 50) (by omega)
    rw [show 50 + (i - 50) = i by omega] at h1
    have h2 := List.all_eq_true.1 mrk_ff (i - 50) (List.mem_range.2 (by omega))
    rw [h1] at h0
    rw [GF.add_eq_zero.1 h0] at h2
    simp at h2
  · rfl
theorem blank_not {y : Nat → GF} (hy : GF.df y (fun _ => GF.of 255) ≤ 4) {u : Nat → GF} {n : Nat} (hd : GF.dec y = some (u, n)) : ¬ marked u := by
  intro hm
  have h8 := marked_far hm
  rcases GF.dec_spec y with ⟨c, n', q1, _, q3, q4⟩ | ⟨q1, _⟩
  · rw [q1] at hd
    simp only [Option.some.injEq, Prod.mk.injEq] at hd
    obtain ⟨rfl, rfl⟩ := hd
    have := GF.df_tri c y (fun _ => GF.of 255)
    have hc := GF.df_comm c y
    omega
  · rw [q1] at hd; cases hd
end Go.Proofs.Ytmfmoanjecjeeaa
