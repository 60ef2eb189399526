/- What a chip's functions do. -/
import Derived.Test.YtlbbcgjfkpnilaaNand
set_option linter.unusedVariables false
set_option linter.unusedSectionVars false
set_option linter.unusedSimpArgs false
namespace Go.Proofs.Ytlbbcgjfkpnilaa
open Go.Mx

instance (p k : Int) : Decidable (isAt p k) := by unfold isAt; infer_instance
theorem updB_self (σ : ChipS) (x : Int) : σ.updB x (σ.b x) = σ := by cases σ; simp [ChipS.updB, upd_self]
theorem updB_updB (σ : ChipS) (x : Int) (β γ : BlockS) : (σ.updB x β).updB x γ = σ.updB x γ := by simp [ChipS.updB, upd_upd]
theorem updB_b (σ : ChipS) (x : Int) (β : BlockS) : (σ.updB x β).b x = β := by simp [ChipS.updB]
theorem put_at (σ : ChipS) (p k : Int) (c : ChunkS) : (σ.put p k c).at_ p k = c := by simp [ChipS.put, ChipS.at_, ChipS.updB, BlockS.updC]
theorem put_put (σ : ChipS) (p k : Int) (c d : ChunkS) : (σ.put p k c).put p k d = σ.put p k d := by simp [ChipS.put, ChipS.updB, BlockS.updC, upd_upd]

/-- in how many of the first n places two rows differ -/
def cntNe (f g : Int → Int) : Nat → Int
  | 0 => 0
  | n + 1 => cntNe f g n + if f n ≠ g n then 1 else 0
theorem cntNe_succ (f g : Int → Int) (n : Nat) : cntNe f g (n + 1) = cntNe f g n + if f n ≠ g n then 1 else 0 := rfl
theorem cntNe_le (f g : Int → Int) (n : Nat) : 0 ≤ cntNe f g n ∧ cntNe f g n ≤ n := by
  induction n with
  | zero => simp [cntNe]
  | succ n ih => rw [cntNe_succ]; split <;> omega
def ChunkS.damage (c : ChunkS) : Int := cntNe c.now c.tru 64

def ChipS.step (σ : ChipS) : Int × ChipS :=
  if σ.cut = true then (if σ.budget = 0 then (7, { σ with off := true }) else (0, { σ with budget := σ.budget - 1, steps := σ.steps + 1 })) else (0, { σ with steps := σ.steps + 1 })
/-- a write wears what waits for it -/
def BlockS.worn (β : BlockS) : BlockS := if β.before > 0 then { β with before := β.before - 1, failed := β.failed || β.before - 1 == 0 } else β
def ChipS.write (σ : ChipS) (p k : Int) (n : Nat) (f : Int → Int) : Int × ChipS :=
  if ¬ isAt p k then (1, σ) else if n ≠ 64 then (1, σ) else if σ.off = true then (7, σ) else if (σ.at_ p k).is = true then (9, σ) else
  if σ.step.1 ≠ 0 then σ.step else
  if (σ.step.2.b (p / 8)).worn.failed = true then (8, σ.step.2.updB (p / 8) (σ.step.2.b (p / 8)).worn) else (0, (σ.step.2.updB (p / 8) (σ.step.2.b (p / 8)).worn).put p k ⟨f, f, true, 0⟩)

section
variable (k : Nat) {m : Mem} {c : Nat} {σ : ChipS} (h : m[c]? = some (.live (chipC σ)))

theorem nand_at_is (p q : Int) : nand_Chip_at k (some ⟨c, 0, none⟩) p q m = some (if isAt p q then (some ⟨c, chA p q, none⟩, .nilIface, m) else (none, errC 1, m)) := by
  unfold nand_Chip_at
  by_cases hp : isAt p q
  · have ⟨h0, h1, h2, h3⟩ := hp
    rw [if_pos hp]
    simp (disch := omega) only [Option.bind_some, Option.map_some, cond_true, cond_false, wrap_i64, tmod_pos, tdiv_pos, inRange_yes, inUpto_yes, isZero_no, decide_eq_true, decide_eq_false, Bool.not_true, Bool.not_false, Int.toNat_natCast, Nat.mul_one, beqI_yes, beqI_no, bneI_yes, bneI_no, isNil_nil, isNil_iface, wr_wr, Option.isNone_none, Option.isNone_some, plus, Nat.zero_add, Nat.add_zero]
    rfl
  · rw [if_neg hp]
    unfold isAt at hp
    simp only [cond_eq_ite, decide_eq_true_eq, errC]
    grind
theorem nand_block_is (x : Int) : nand_Chip_block k (some ⟨c, 0, none⟩) x m = some (if 0 ≤ x ∧ x < 12 then (some ⟨c, x.toNat * 4164, none⟩, .nilIface, m) else (none, errC 1, m)) := by
  unfold nand_Chip_block
  by_cases hp : 0 ≤ x ∧ x < 12
  · obtain ⟨h0, h1⟩ := hp
    rw [if_pos ⟨h0, h1⟩]
    simp (disch := omega) only [Option.bind_some, Option.map_some, cond_true, cond_false, wrap_i64, tmod_pos, tdiv_pos, inRange_yes, inUpto_yes, isZero_no, decide_eq_true, decide_eq_false, Bool.not_true, Bool.not_false, Int.toNat_natCast, Nat.mul_one, beqI_yes, beqI_no, bneI_yes, bneI_no, isNil_nil, isNil_iface, wr_wr, Option.isNone_none, Option.isNone_some, plus, Nat.zero_add, Nat.add_zero]
  · rw [if_neg hp]
    simp only [cond_eq_ite, decide_eq_true_eq, errC]
    grind
include h
theorem nand_step_is (hs : 0 ≤ σ.steps ∧ σ.steps < 4611686018427387904) (hb : 0 ≤ σ.budget ∧ σ.budget < 9223372036854775808) : nand_Chip_step k (some ⟨c, 0, none⟩) m = some (errC σ.step.1, wr m c (chipC σ.step.2)) := by
  unfold nand_Chip_step ChipS.step
  cases hc : σ.cut with
  | false =>
    simp (disch := omega) only [Option.bind_some, Option.map_some, cond_true, cond_false, wrap_i64, tmod_pos, tdiv_pos, inRange_yes, inUpto_yes, isZero_no, decide_eq_true, decide_eq_false, Bool.not_true, Bool.not_false, Int.toNat_natCast, Nat.mul_one, beqI_yes, beqI_no, bneI_yes, bneI_no, isNil_nil, isNil_iface, wr_wr, Option.isNone_none, Option.isNone_some, plus, Nat.zero_add, Nat.add_zero, chip_ldCut h, hc, nand_Chip_step_j1, chip_ldSteps h, chip_stSteps h]
    simp [errC, hc]
  | true =>
    by_cases h0 : σ.budget = 0
    · simp (disch := omega) only [Option.bind_some, Option.map_some, cond_true, cond_false, wrap_i64, tmod_pos, tdiv_pos, inRange_yes, inUpto_yes, isZero_no, decide_eq_true, decide_eq_false, Bool.not_true, Bool.not_false, Int.toNat_natCast, Nat.mul_one, beqI_yes, beqI_no, bneI_yes, bneI_no, isNil_nil, isNil_iface, wr_wr, Option.isNone_none, Option.isNone_some, plus, Nat.zero_add, Nat.add_zero, chip_ldCut h, hc, chip_ldBudget h, chip_stOff h]
      simp [errC, hc, h0]
    · simp (disch := omega) only [Option.bind_some, Option.map_some, cond_true, cond_false, wrap_i64, tmod_pos, tdiv_pos, inRange_yes, inUpto_yes, isZero_no, decide_eq_true, decide_eq_false, Bool.not_true, Bool.not_false, Int.toNat_natCast, Nat.mul_one, beqI_yes, beqI_no, bneI_yes, bneI_no, isNil_nil, isNil_iface, wr_wr, Option.isNone_none, Option.isNone_some, plus, Nat.zero_add, Nat.add_zero, chip_ldCut h, hc, chip_ldBudget h, chip_stBudget h, nand_Chip_step_j1, chip_ldSteps (wr_get h), chip_stSteps (wr_get h)]
      simp [errC, hc, h0]
theorem nand_damage_is (hk : 64 < k) {p q : Int} (hp : isAt p q) : nand_chunk_damage k (some ⟨c, chA p q, none⟩) m = some ((σ.at_ p q).damage, m) := by
  have key : ∀ (d n i : Nat), i + d = 64 → d < n → nand_chunk_damage_l0 k (fun y3 m6 => some (y3, m6)) n (some ⟨c, chA p q, none⟩) (cntNe (σ.at_ p q).now (σ.at_ p q).tru i) (arr .u8 64 (σ.at_ p q).now) i m = some ((σ.at_ p q).damage, m) := by
    intro d
    induction d with
    | zero =>
      intro n i h1 h2
      cases n with
      | zero => omega
      | succ n =>
        have : i = 64 := by omega
        subst this
        unfold nand_chunk_damage_l0 nand_chunk_damage_l0_b
        rfl
    | succ d ih =>
      intro n i h1 h2
      cases n with
      | zero => omega
      | succ n =>
        have ih := ih n (i + 1) (by omega) (by omega)
        have hc := cntNe_le (σ.at_ p q).now (σ.at_ p q).tru i
        have e1 : cInt .u8 (arr .u8 64 (σ.at_ p q).now) i = some ((σ.at_ p q).now i) := by simp [cInt, arr_get (show i < 64 by omega)]
        have e2 := chip_ldTru h hp (i := (i : Int)) (by omega) (by omega)
        rw [Int.toNat_natCast] at e2
        unfold nand_chunk_damage_l0 nand_chunk_damage_l0_b
        simp (disch := omega) only [Option.bind_some, Option.map_some, cond_true, cond_false, wrap_i64, tmod_pos, tdiv_pos, inRange_yes, inUpto_yes, isZero_no, decide_eq_true, decide_eq_false, Bool.not_true, Bool.not_false, Int.toNat_natCast, Nat.mul_one, beqI_yes, beqI_no, bneI_yes, bneI_no, isNil_nil, isNil_iface, wr_wr, Option.isNone_none, Option.isNone_some, plus, Nat.zero_add, Nat.add_zero, e1, e2, nand_chunk_damage_j1, cond_eq_ite, bne_iff_ne]
        rw [cntNe_succ] at ih
        grind
  unfold nand_chunk_damage
  simp (disch := omega) only [Option.bind_some, Option.map_some, cond_true, cond_false, wrap_i64, tmod_pos, tdiv_pos, inRange_yes, inUpto_yes, isZero_no, decide_eq_true, decide_eq_false, Bool.not_true, Bool.not_false, Int.toNat_natCast, Nat.mul_one, beqI_yes, beqI_no, bneI_yes, bneI_no, isNil_nil, isNil_iface, wr_wr, Option.isNone_none, Option.isNone_some, plus, Nat.zero_add, Nat.add_zero, chip_cellsNow h hp]
  exact key 64 k 0 rfl hk
theorem nand_Damage_is (hk : 64 < k) (p q : Int) : nand_Chip_Damage k (some ⟨c, 0, none⟩) p q m = some (if isAt p q then ((σ.at_ p q).damage, (σ.at_ p q).worst, .nilIface, m) else (0, 0, errC 1, m)) := by
  unfold nand_Chip_Damage
  rw [nand_at_is]
  by_cases hp : isAt p q
  · simp (disch := omega) only [Option.bind_some, Option.map_some, cond_true, cond_false, wrap_i64, tmod_pos, tdiv_pos, inRange_yes, inUpto_yes, isZero_no, decide_eq_true, decide_eq_false, Bool.not_true, Bool.not_false, Int.toNat_natCast, Nat.mul_one, beqI_yes, beqI_no, bneI_yes, bneI_no, isNil_nil, isNil_iface, wr_wr, Option.isNone_none, Option.isNone_some, plus, Nat.zero_add, Nat.add_zero, if_pos hp, nand_damage_is k h hk hp, chip_ldWorst h hp]
  · simp (disch := omega) only [Option.bind_some, Option.map_some, cond_true, cond_false, wrap_i64, tmod_pos, tdiv_pos, inRange_yes, inUpto_yes, isZero_no, decide_eq_true, decide_eq_false, Bool.not_true, Bool.not_false, Int.toNat_natCast, Nat.mul_one, beqI_yes, beqI_no, bneI_yes, bneI_no, isNil_nil, isNil_iface, wr_wr, Option.isNone_none, Option.isNone_some, plus, Nat.zero_add, Nat.add_zero, if_neg hp, isNil_errC]
theorem nand_On_is : nand_Chip_On k (some ⟨c, 0, none⟩) m = some (!σ.off, m) := by
  unfold nand_Chip_On
  simp (disch := omega) only [Option.bind_some, Option.map_some, cond_true, cond_false, wrap_i64, tmod_pos, tdiv_pos, inRange_yes, inUpto_yes, isZero_no, decide_eq_true, decide_eq_false, Bool.not_true, Bool.not_false, Int.toNat_natCast, Nat.mul_one, beqI_yes, beqI_no, bneI_yes, bneI_no, isNil_nil, isNil_iface, wr_wr, Option.isNone_none, Option.isNone_some, plus, Nat.zero_add, Nat.add_zero, chip_ldOff h]
theorem nand_Steps_is : nand_Chip_Steps k (some ⟨c, 0, none⟩) m = some (σ.steps, m) := by
  unfold nand_Chip_Steps
  simp (disch := omega) only [Option.bind_some, Option.map_some, cond_true, cond_false, wrap_i64, tmod_pos, tdiv_pos, inRange_yes, inUpto_yes, isZero_no, decide_eq_true, decide_eq_false, Bool.not_true, Bool.not_false, Int.toNat_natCast, Nat.mul_one, beqI_yes, beqI_no, bneI_yes, bneI_no, isNil_nil, isNil_iface, wr_wr, Option.isNone_none, Option.isNone_some, plus, Nat.zero_add, Nat.add_zero, chip_ldSteps h]
theorem nand_Power_is : nand_Chip_Power k (some ⟨c, 0, none⟩) m = some (wr m c (chipC { σ with off := false, cut := false, budget := 0 })) := by
  unfold nand_Chip_Power
  simp (disch := omega) only [Option.bind_some, Option.map_some, cond_true, cond_false, wrap_i64, tmod_pos, tdiv_pos, inRange_yes, inUpto_yes, isZero_no, decide_eq_true, decide_eq_false, Bool.not_true, Bool.not_false, Int.toNat_natCast, Nat.mul_one, beqI_yes, beqI_no, bneI_yes, bneI_no, isNil_nil, isNil_iface, wr_wr, Option.isNone_none, Option.isNone_some, plus, Nat.zero_add, Nat.add_zero, chip_stOff h, chip_stCut (wr_get h), chip_stBudget (wr_get h)]
theorem nand_Cut_is (n : Int) : nand_Chip_Cut k (some ⟨c, 0, none⟩) n m = some (if n < 0 then (errC 1, m) else (.nilIface, wr m c (chipC (if σ.off = true then σ else { σ with cut := true, budget := n })))) := by
  unfold nand_Chip_Cut nand_Chip_Cut_j1
  by_cases h0 : n < 0
  · simp (disch := omega) only [Option.bind_some, Option.map_some, cond_true, cond_false, wrap_i64, tmod_pos, tdiv_pos, inRange_yes, inUpto_yes, isZero_no, decide_eq_true, decide_eq_false, Bool.not_true, Bool.not_false, Int.toNat_natCast, Nat.mul_one, beqI_yes, beqI_no, bneI_yes, bneI_no, isNil_nil, isNil_iface, wr_wr, Option.isNone_none, Option.isNone_some, plus, Nat.zero_add, Nat.add_zero, if_pos h0]; rfl
  · rw [if_neg h0]
    cases ho : σ.off with
    | true => simp (disch := omega) only [Option.bind_some, Option.map_some, cond_true, cond_false, wrap_i64, tmod_pos, tdiv_pos, inRange_yes, inUpto_yes, isZero_no, decide_eq_true, decide_eq_false, Bool.not_true, Bool.not_false, Int.toNat_natCast, Nat.mul_one, beqI_yes, beqI_no, bneI_yes, bneI_no, isNil_nil, isNil_iface, wr_wr, Option.isNone_none, Option.isNone_some, plus, Nat.zero_add, Nat.add_zero, chip_ldOff h, ho]; simp [wr_same h]
    | false => simp (disch := omega) only [Option.bind_some, Option.map_some, cond_true, cond_false, wrap_i64, tmod_pos, tdiv_pos, inRange_yes, inUpto_yes, isZero_no, decide_eq_true, decide_eq_false, Bool.not_true, Bool.not_false, Int.toNat_natCast, Nat.mul_one, beqI_yes, beqI_no, bneI_yes, bneI_no, isNil_nil, isNil_iface, wr_wr, Option.isNone_none, Option.isNone_some, plus, Nat.zero_add, Nat.add_zero, chip_ldOff h, ho, chip_stCut h, chip_stBudget (wr_get h)]; simp
theorem nand_Reads_is (x : Int) : nand_Chip_Reads k (some ⟨c, 0, none⟩) x m = some (if 0 ≤ x ∧ x < 12 then ((σ.b x).reads, .nilIface, m) else (0, errC 1, m)) := by
  unfold nand_Chip_Reads
  rw [nand_block_is]
  by_cases hx : 0 ≤ x ∧ x < 12
  · simp (disch := omega) only [Option.bind_some, Option.map_some, cond_true, cond_false, wrap_i64, tmod_pos, tdiv_pos, inRange_yes, inUpto_yes, isZero_no, decide_eq_true, decide_eq_false, Bool.not_true, Bool.not_false, Int.toNat_natCast, Nat.mul_one, beqI_yes, beqI_no, bneI_yes, bneI_no, isNil_nil, isNil_iface, wr_wr, Option.isNone_none, Option.isNone_some, plus, Nat.zero_add, Nat.add_zero, if_pos hx, sync_atomic_Int64_Load, sync_atomic_LoadInt64, atLoad, chip_ldReads h hx.1 hx.2]
  · simp (disch := omega) only [Option.bind_some, Option.map_some, cond_true, cond_false, wrap_i64, tmod_pos, tdiv_pos, inRange_yes, inUpto_yes, isZero_no, decide_eq_true, decide_eq_false, Bool.not_true, Bool.not_false, Int.toNat_natCast, Nat.mul_one, beqI_yes, beqI_no, bneI_yes, bneI_no, isNil_nil, isNil_iface, wr_wr, Option.isNone_none, Option.isNone_some, plus, Nat.zero_add, Nat.add_zero, if_neg hx, isNil_errC]
theorem nand_Failed_is (x : Int) : nand_Chip_Failed k (some ⟨c, 0, none⟩) x m = some (if 0 ≤ x ∧ x < 12 then ((σ.b x).failed, .nilIface, m) else (false, errC 1, m)) := by
  unfold nand_Chip_Failed
  rw [nand_block_is]
  by_cases hx : 0 ≤ x ∧ x < 12
  · simp (disch := omega) only [Option.bind_some, Option.map_some, cond_true, cond_false, wrap_i64, tmod_pos, tdiv_pos, inRange_yes, inUpto_yes, isZero_no, decide_eq_true, decide_eq_false, Bool.not_true, Bool.not_false, Int.toNat_natCast, Nat.mul_one, beqI_yes, beqI_no, bneI_yes, bneI_no, isNil_nil, isNil_iface, wr_wr, Option.isNone_none, Option.isNone_some, plus, Nat.zero_add, Nat.add_zero, if_pos hx, chip_ldFailed h hx.1 hx.2]
  · simp (disch := omega) only [Option.bind_some, Option.map_some, cond_true, cond_false, wrap_i64, tmod_pos, tdiv_pos, inRange_yes, inUpto_yes, isZero_no, decide_eq_true, decide_eq_false, Bool.not_true, Bool.not_false, Int.toNat_natCast, Nat.mul_one, beqI_yes, beqI_no, bneI_yes, bneI_no, isNil_nil, isNil_iface, wr_wr, Option.isNone_none, Option.isNone_some, plus, Nat.zero_add, Nat.add_zero, if_neg hx, isNil_errC]
theorem nand_FailErase_is (x : Int) : nand_Chip_FailErase k (some ⟨c, 0, none⟩) x m = some (if 0 ≤ x ∧ x < 12 then (.nilIface, wr m c (chipC (σ.updB x { σ.b x with atErase := true }))) else (errC 1, m)) := by
  unfold nand_Chip_FailErase
  rw [nand_block_is]
  by_cases hx : 0 ≤ x ∧ x < 12
  · simp (disch := omega) only [Option.bind_some, Option.map_some, cond_true, cond_false, wrap_i64, tmod_pos, tdiv_pos, inRange_yes, inUpto_yes, isZero_no, decide_eq_true, decide_eq_false, Bool.not_true, Bool.not_false, Int.toNat_natCast, Nat.mul_one, beqI_yes, beqI_no, bneI_yes, bneI_no, isNil_nil, isNil_iface, wr_wr, Option.isNone_none, Option.isNone_some, plus, Nat.zero_add, Nat.add_zero, if_pos hx, chip_stAtErase h hx.1 hx.2]
  · simp (disch := omega) only [Option.bind_some, Option.map_some, cond_true, cond_false, wrap_i64, tmod_pos, tdiv_pos, inRange_yes, inUpto_yes, isZero_no, decide_eq_true, decide_eq_false, Bool.not_true, Bool.not_false, Int.toNat_natCast, Nat.mul_one, beqI_yes, beqI_no, bneI_yes, bneI_no, isNil_nil, isNil_iface, wr_wr, Option.isNone_none, Option.isNone_some, plus, Nat.zero_add, Nat.add_zero, if_neg hx, isNil_errC]
theorem nand_FailProgram_is (x n : Int) (hn : n < 9223372036854775808) : nand_Chip_FailProgram k (some ⟨c, 0, none⟩) x n m = some (if 0 ≤ x ∧ x < 12 ∧ 0 ≤ n then (.nilIface, wr m c (chipC (σ.updB x { σ.b x with before := (if n ≤ 9223372036854775806 then n else 9223372036854775806) + 1 }))) else (errC 1, m)) := by
  unfold nand_Chip_FailProgram
  rw [nand_block_is]
  by_cases hx : 0 ≤ x ∧ x < 12
  · by_cases h0 : n < 0
    · simp (disch := omega) only [Option.bind_some, Option.map_some, cond_true, cond_false, wrap_i64, tmod_pos, tdiv_pos, inRange_yes, inUpto_yes, isZero_no, decide_eq_true, decide_eq_false, Bool.not_true, Bool.not_false, Int.toNat_natCast, Nat.mul_one, beqI_yes, beqI_no, bneI_yes, bneI_no, isNil_nil, isNil_iface, wr_wr, Option.isNone_none, Option.isNone_some, plus, Nat.zero_add, Nat.add_zero, if_pos hx, if_neg (show ¬ (0 ≤ x ∧ x < 12 ∧ 0 ≤ n) by omega)]; rfl
    · have e : minI n 9223372036854775806 = if n ≤ 9223372036854775806 then n else 9223372036854775806 := by unfold minI; split <;> split <;> omega
      have e2 : 0 ≤ (if n ≤ 9223372036854775806 then n else 9223372036854775806) ∧ (if n ≤ 9223372036854775806 then n else 9223372036854775806) ≤ 9223372036854775806 := by split <;> omega
      simp (disch := omega) only [Option.bind_some, Option.map_some, cond_true, cond_false, wrap_i64, tmod_pos, tdiv_pos, inRange_yes, inUpto_yes, isZero_no, decide_eq_true, decide_eq_false, Bool.not_true, Bool.not_false, Int.toNat_natCast, Nat.mul_one, beqI_yes, beqI_no, bneI_yes, bneI_no, isNil_nil, isNil_iface, wr_wr, Option.isNone_none, Option.isNone_some, plus, Nat.zero_add, Nat.add_zero, if_pos hx, if_pos (show (0 ≤ x ∧ x < 12 ∧ 0 ≤ n) by omega), e, chip_stBefore h hx.1 hx.2]
  · simp (disch := omega) only [Option.bind_some, Option.map_some, cond_true, cond_false, wrap_i64, tmod_pos, tdiv_pos, inRange_yes, inUpto_yes, isZero_no, decide_eq_true, decide_eq_false, Bool.not_true, Bool.not_false, Int.toNat_natCast, Nat.mul_one, beqI_yes, beqI_no, bneI_yes, bneI_no, isNil_nil, isNil_iface, wr_wr, Option.isNone_none, Option.isNone_some, plus, Nat.zero_add, Nat.add_zero, if_neg hx, isNil_errC, if_neg (show ¬ (0 ≤ x ∧ x < 12 ∧ 0 ≤ n) by omega)]
end
end Go.Proofs.Ytlbbcgjfkpnilaa
