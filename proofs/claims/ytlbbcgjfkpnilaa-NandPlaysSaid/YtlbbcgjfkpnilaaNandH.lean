/- What a chip's functions do: erase, write, and what was written. -/
import Derived.Test.YtlbbcgjfkpnilaaNandG
set_option linter.unusedVariables false
set_option linter.unusedSectionVars false
set_option linter.unusedSimpArgs false
namespace Go.Proofs.Ytlbbcgjfkpnilaa
open Go.Mx

def ChipS.erase (σ : ChipS) (x : Int) : Int × ChipS :=
  if ¬ (0 ≤ x ∧ x < 12) then (1, σ) else if σ.off = true then (7, σ) else if σ.step.1 ≠ 0 then σ.step else
  if (σ.step.2.b x).failed || (σ.step.2.b x).atErase then (8, σ.step.2.updB x { σ.step.2.b x with failed := true }) else (0, σ.step.2.updB x ({ σ.step.2.b x with failed := false } : BlockS).clear)
theorem step_b (σ : ChipS) : σ.step.2.b = σ.b := by unfold ChipS.step; split <;> (try split) <;> rfl
theorem put_b (σ : ChipS) (x : Int) (β γ : BlockS) : ((σ.updB x β).updB x γ) = σ.updB x γ := updB_updB σ x β γ

section
variable (k : Nat) {m : Mem} {c : Nat} {σ : ChipS} (h : m[c]? = some (.live (chipC σ)))
include h
theorem nand_Truth_is (p q : Int) : nand_Chip_Truth k (some ⟨c, 0, none⟩) p q m = some (if isAt p q then (⟨some ⟨m.length, 0, some 1⟩, 64, 64⟩, (σ.at_ p q).is, .nilIface, m ++ [.live (arr .u8 64 (σ.at_ p q).tru)]) else (⟨none, 0, 0⟩, false, errC 1, m)) := by
  unfold nand_Chip_Truth
  rw [nand_at_is]
  by_cases hp : isAt p q
  · have e1 := rdSl_ld (n := 64) (z := 1) (chip_cellsTru h hp)
    have e2 := appM_first (z := 1) (y := 1) (m := m) (l := 64) (new := arr .u8 64 (σ.at_ p q).tru) (by omega) (by unfold most; omega) (by unfold most; omega)
    have e3 := chip_ldIs h hp
    have e4 := chip_ldIs (get_grow (g := [.live (arr .u8 64 (σ.at_ p q).tru)]) h) hp
    have e5 : sliceK.clear (some ⟨c, chA p q + 64, none⟩) true = some ⟨c, chA p q + 64, none⟩ := rfl
    simp (disch := omega) only [Option.bind_some, Option.map_some, cond_true, cond_false, wrap_i64, tmod_pos, tdiv_pos, inRange_yes, inUpto_yes, isZero_no, decide_eq_true, decide_eq_false, Bool.not_true, Bool.not_false, Int.toNat_natCast, Nat.mul_one, beqI_yes, beqI_no, bneI_yes, bneI_no, isNil_nil, isNil_iface, wr_wr, Option.isNone_none, Option.isNone_some, plus, Nat.zero_add, Nat.add_zero, if_pos hp, e5, e1, e2, e3, e4, beq_self_eq_true]
  · simp (disch := omega) only [Option.bind_some, Option.map_some, cond_true, cond_false, wrap_i64, tmod_pos, tdiv_pos, inRange_yes, inUpto_yes, isZero_no, decide_eq_true, decide_eq_false, Bool.not_true, Bool.not_false, Int.toNat_natCast, Nat.mul_one, beqI_yes, beqI_no, bneI_yes, bneI_no, isNil_nil, isNil_iface, wr_wr, Option.isNone_none, Option.isNone_some, plus, Nat.zero_add, Nat.add_zero, if_neg hp, isNil_errC]
theorem nand_Erase_ok (hk : 100 < k) (hs : 0 ≤ σ.steps ∧ σ.steps < 4611686018427387904) (hb : 0 ≤ σ.budget ∧ σ.budget < 9223372036854775808) (x : Int) :
    ∃ g, nand_Chip_Erase k (some ⟨c, 0, none⟩) x m = some (errC (σ.erase x).1, wr m c (chipC (σ.erase x).2) ++ g) := by
  unfold nand_Chip_Erase
  rw [nand_block_is]
  unfold ChipS.erase
  by_cases hx : 0 ≤ x ∧ x < 12
  rotate_left
  · refine ⟨[], ?_⟩
    rw [if_neg hx, if_pos hx]
    have e : decide ((1 : Int) = 0) = false := rfl
    simp (disch := omega) only [Option.bind_some, Option.map_some, cond_true, cond_false, wrap_i64, tmod_pos, tdiv_pos, inRange_yes, inUpto_yes, isZero_no, decide_eq_true, decide_eq_false, Bool.not_true, Bool.not_false, Int.toNat_natCast, Nat.mul_one, beqI_yes, beqI_no, bneI_yes, bneI_no, isNil_nil, isNil_iface, wr_wr, Option.isNone_none, Option.isNone_some, plus, Nat.zero_add, Nat.add_zero, isNil_errC, e]
    rw [wr_same h, List.append_nil]
  rw [if_pos hx, if_neg (not_not_intro hx)]
  cases ho : σ.off with
  | true =>
    refine ⟨[], ?_⟩
    rw [if_pos rfl]
    simp (disch := omega) only [Option.bind_some, Option.map_some, cond_true, cond_false, wrap_i64, tmod_pos, tdiv_pos, inRange_yes, inUpto_yes, isZero_no, decide_eq_true, decide_eq_false, Bool.not_true, Bool.not_false, Int.toNat_natCast, Nat.mul_one, beqI_yes, beqI_no, bneI_yes, bneI_no, isNil_nil, isNil_iface, wr_wr, Option.isNone_none, Option.isNone_some, plus, Nat.zero_add, Nat.add_zero, chip_ldOff h, ho]
    simp only [wr_same h, List.append_nil]; rfl
  | false =>
    rw [if_neg (by simp)]
    have hst := nand_step_is k h hs hb
    by_cases h1 : σ.step.1 = 0
    rotate_left
    · refine ⟨[], ?_⟩
      have e := decide_eq_false h1
      rw [if_pos h1, List.append_nil]
      simp (disch := omega) only [Option.bind_some, Option.map_some, cond_true, cond_false, wrap_i64, tmod_pos, tdiv_pos, inRange_yes, inUpto_yes, isZero_no, decide_eq_true, decide_eq_false, Bool.not_true, Bool.not_false, Int.toNat_natCast, Nat.mul_one, beqI_yes, beqI_no, bneI_yes, bneI_no, isNil_nil, isNil_iface, wr_wr, Option.isNone_none, Option.isNone_some, plus, Nat.zero_add, Nat.add_zero, chip_ldOff h, ho, hst, isNil_errC, e]
    have e := decide_eq_true h1
    rw [if_neg (by simpa using h1)]
    have h2 := wr_get (cs := chipC σ.step.2) h
    cases hf : (σ.step.2.b x).failed with
    | true =>
      refine ⟨[], ?_⟩
      have h3 := wr_get (cs := chipC (σ.step.2.updB x { σ.step.2.b x with failed := true })) h2
      have e4 := chip_ldFailed h3 hx.1 hx.2
      rw [updB_b, wr_wr] at e4
      rw [Bool.true_or, if_pos rfl, List.append_nil]
      simp (disch := omega) only [Option.bind_some, Option.map_some, cond_true, cond_false, wrap_i64, tmod_pos, tdiv_pos, inRange_yes, inUpto_yes, isZero_no, decide_eq_true, decide_eq_false, Bool.not_true, Bool.not_false, Int.toNat_natCast, Nat.mul_one, beqI_yes, beqI_no, bneI_yes, bneI_no, isNil_nil, isNil_iface, wr_wr, Option.isNone_none, Option.isNone_some, plus, Nat.zero_add, Nat.add_zero, chip_ldOff h, ho, hst, isNil_errC, e, chip_ldFailed h2 hx.1 hx.2, hf, chip_stFailed h2 hx.1 hx.2, e4]
      rfl
    | false =>
      rw [Bool.false_or]
      have h3 := wr_get (cs := chipC (σ.step.2.updB x { σ.step.2.b x with failed := (σ.step.2.b x).atErase })) h2
      have e4 := chip_ldFailed h3 hx.1 hx.2
      rw [updB_b, wr_wr] at e4
      cases ha : (σ.step.2.b x).atErase with
      | true =>
        refine ⟨[], ?_⟩
        simp only [ha] at e4
        rw [if_pos rfl, List.append_nil]
        simp (disch := omega) only [Option.bind_some, Option.map_some, cond_true, cond_false, wrap_i64, tmod_pos, tdiv_pos, inRange_yes, inUpto_yes, isZero_no, decide_eq_true, decide_eq_false, Bool.not_true, Bool.not_false, Int.toNat_natCast, Nat.mul_one, beqI_yes, beqI_no, bneI_yes, bneI_no, isNil_nil, isNil_iface, wr_wr, Option.isNone_none, Option.isNone_some, plus, Nat.zero_add, Nat.add_zero, chip_ldOff h, ho, hst, isNil_errC, e, chip_ldFailed h2 hx.1 hx.2, hf, chip_ldAtErase h2 hx.1 hx.2, ha, chip_stFailed h2 hx.1 hx.2, e4]
        rfl
      | false =>
        simp only [ha] at e4 h3
        rw [wr_wr] at h3
        obtain ⟨g, hg⟩ := nand_clear_ok k hk h3 hx.1 hx.2
        refine ⟨[g], ?_⟩
        rw [updB_b, updB_updB, wr_wr] at hg
        rw [if_neg (by simp)]
        simp (disch := omega) only [Option.bind_some, Option.map_some, cond_true, cond_false, wrap_i64, tmod_pos, tdiv_pos, inRange_yes, inUpto_yes, isZero_no, decide_eq_true, decide_eq_false, Bool.not_true, Bool.not_false, Int.toNat_natCast, Nat.mul_one, beqI_yes, beqI_no, bneI_yes, bneI_no, isNil_nil, isNil_iface, wr_wr, Option.isNone_none, Option.isNone_some, plus, Nat.zero_add, Nat.add_zero, chip_ldOff h, ho, hst, isNil_errC, e, chip_ldFailed h2 hx.1 hx.2, hf, chip_ldAtErase h2 hx.1 hx.2, ha, chip_stFailed h2 hx.1 hx.2, e4, hg]
        rfl
omit h in
theorem write_j1 {m : Mem} {τ : ChipS} (h : m[c]? = some (.live (chipC τ))) {p q : Int} (hp : isAt p q) {a : Option Addr} {f : Int → Int} (hsrc : rdSl m a 64 1 = some (arr .u8 64 f)) (v : Value) (mm : Mem) :
    nand_Chip_Write_j1 k p a 64 (some ⟨c, chA p q, none⟩, v, mm) ⟨c, 0, none⟩ m = some (if (τ.b (p / 8)).failed = true then (errC 8, m) else (.nilIface, wr m c (chipC (τ.put p q ⟨f, f, true, 0⟩)))) := by
  have hp' := hp
  obtain ⟨h0, h1, h2, h3⟩ := hp'
  unfold nand_Chip_Write_j1
  have e0 := chip_ldFailed h (x := p / 8) (by omega) (by omega)
  cases hf : (τ.b (p / 8)).failed with
  | true =>
    rw [hf] at e0
    rw [if_pos rfl]
    simp (disch := omega) only [Option.bind_some, Option.map_some, cond_true, cond_false, wrap_i64, tmod_pos, tdiv_pos, inRange_yes, inUpto_yes, isZero_no, decide_eq_true, decide_eq_false, Bool.not_true, Bool.not_false, Int.toNat_natCast, Nat.mul_one, beqI_yes, beqI_no, bneI_yes, bneI_no, isNil_nil, isNil_iface, wr_wr, Option.isNone_none, Option.isNone_some, plus, Nat.zero_add, Nat.add_zero, e0]
    rfl
  | false =>
    rw [hf] at e0
    rw [if_neg (by simp)]
    have g1 := wr_get (cs := chipC (τ.put p q { τ.at_ p q with now := f })) h
    have e1 := chip_stCellsNow h hp f
    have e2 := chip_cellsNow g1 hp
    rw [put_at] at e2
    have e3 := chip_stCellsTru g1 hp f
    rw [put_at, put_put, wr_wr] at e3
    have g2 := wr_get (cs := chipC (τ.put p q { ({ τ.at_ p q with now := f } : ChunkS) with tru := f })) h
    have e4 := chip_stIs g2 hp true
    rw [put_at, put_put, wr_wr] at e4
    have g3 := wr_get (cs := chipC (τ.put p q { ({ ({ τ.at_ p q with now := f } : ChunkS) with tru := f } : ChunkS) with is := true })) h
    have e5 := chip_stWorst g3 hp 0
    rw [put_at, put_put, wr_wr] at e5
    have e6 : sliceK.clear (some ⟨c, chA p q, none⟩) true = some ⟨c, chA p q, none⟩ := rfl
    have e7 : ∀ l, oper.stSl m (some ⟨c, chA p q, none⟩) l = stCells m ⟨c, chA p q, none⟩ l := fun _ => rfl
    have e8 : Nat.beq (arr .u8 64 f).length 64 = true := by rw [arr_length]; rfl
    simp (disch := omega) only [Option.bind_some, Option.map_some, cond_true, cond_false, wrap_i64, tmod_pos, tdiv_pos, inRange_yes, inUpto_yes, isZero_no, decide_eq_true, decide_eq_false, Bool.not_true, Bool.not_false, Int.toNat_natCast, Nat.mul_one, beqI_yes, beqI_no, bneI_yes, bneI_no, isNil_nil, isNil_iface, wr_wr, Option.isNone_none, Option.isNone_some, plus, Nat.zero_add, Nat.add_zero, e0, Nat.min_self, hsrc, e6, e7, e1, e2, e8, e3, e4, e5]
theorem nand_Write_is (hs : 0 ≤ σ.steps ∧ σ.steps < 4611686018427387904) (hb : 0 ≤ σ.budget ∧ σ.budget < 9223372036854775808) (hw : ∀ x, 0 ≤ (σ.b x).before ∧ (σ.b x).before < 9223372036854775808) (p q : Int) {a : Option Addr} {n cc : Nat} {f : Int → Int}
    (hsrc : n = 64 → ∀ τ : ChipS, rdSl (wr m c (chipC τ)) a 64 1 = some (arr .u8 64 f)) :
    nand_Chip_Write k (some ⟨c, 0, none⟩) p q a n cc m = some (errC (σ.write p q n f).1, wr m c (chipC (σ.write p q n f).2)) := by
  unfold nand_Chip_Write
  rw [nand_at_is]
  unfold ChipS.write
  have e1n : decide ((1 : Int) = 0) = false := rfl
  by_cases hp : isAt p q
  rotate_left
  · rw [if_neg hp, if_pos hp]
    simp (disch := omega) only [Option.bind_some, Option.map_some, cond_true, cond_false, wrap_i64, tmod_pos, tdiv_pos, inRange_yes, inUpto_yes, isZero_no, decide_eq_true, decide_eq_false, Bool.not_true, Bool.not_false, Int.toNat_natCast, Nat.mul_one, beqI_yes, beqI_no, bneI_yes, bneI_no, isNil_nil, isNil_iface, wr_wr, Option.isNone_none, Option.isNone_some, plus, Nat.zero_add, Nat.add_zero, isNil_errC, e1n]
    rw [wr_same h]
  rw [if_pos hp, if_neg (not_not_intro hp)]
  by_cases hn : n = 64
  rotate_left
  · rw [if_pos hn]
    simp (disch := omega) only [Option.bind_some, Option.map_some, cond_true, cond_false, wrap_i64, tmod_pos, tdiv_pos, inRange_yes, inUpto_yes, isZero_no, decide_eq_true, decide_eq_false, Bool.not_true, Bool.not_false, Int.toNat_natCast, Nat.mul_one, beqI_yes, beqI_no, bneI_yes, bneI_no, isNil_nil, isNil_iface, wr_wr, Option.isNone_none, Option.isNone_some, plus, Nat.zero_add, Nat.add_zero]
    rw [wr_same h]; rfl
  subst hn
  rw [if_neg (by simp)]
  cases ho : σ.off with
  | true =>
    rw [if_pos rfl]
    simp (disch := omega) only [Option.bind_some, Option.map_some, cond_true, cond_false, wrap_i64, tmod_pos, tdiv_pos, inRange_yes, inUpto_yes, isZero_no, decide_eq_true, decide_eq_false, Bool.not_true, Bool.not_false, Int.toNat_natCast, Nat.mul_one, beqI_yes, beqI_no, bneI_yes, bneI_no, isNil_nil, isNil_iface, wr_wr, Option.isNone_none, Option.isNone_some, plus, Nat.zero_add, Nat.add_zero, chip_ldOff h, ho]
    rw [wr_same h]; rfl
  | false =>
  rw [if_neg (by simp)]
  cases hi : (σ.at_ p q).is with
  | true =>
    rw [if_pos rfl]
    simp (disch := omega) only [Option.bind_some, Option.map_some, cond_true, cond_false, wrap_i64, tmod_pos, tdiv_pos, inRange_yes, inUpto_yes, isZero_no, decide_eq_true, decide_eq_false, Bool.not_true, Bool.not_false, Int.toNat_natCast, Nat.mul_one, beqI_yes, beqI_no, bneI_yes, bneI_no, isNil_nil, isNil_iface, wr_wr, Option.isNone_none, Option.isNone_some, plus, Nat.zero_add, Nat.add_zero, chip_ldOff h, ho, chip_ldIs h hp, hi]
    rw [wr_same h]; rfl
  | false =>
  rw [if_neg (by simp)]
  have hst := nand_step_is k h hs hb
  by_cases h1 : σ.step.1 = 0
  rotate_left
  · have e := decide_eq_false h1
    rw [if_pos h1]
    simp (disch := omega) only [Option.bind_some, Option.map_some, cond_true, cond_false, wrap_i64, tmod_pos, tdiv_pos, inRange_yes, inUpto_yes, isZero_no, decide_eq_true, decide_eq_false, Bool.not_true, Bool.not_false, Int.toNat_natCast, Nat.mul_one, beqI_yes, beqI_no, bneI_yes, bneI_no, isNil_nil, isNil_iface, wr_wr, Option.isNone_none, Option.isNone_some, plus, Nat.zero_add, Nat.add_zero, chip_ldOff h, ho, chip_ldIs h hp, hi, hst, isNil_errC, e]
  have e := decide_eq_true h1
  rw [if_neg (by simpa using h1)]
  have hp' := hp
  obtain ⟨h0, h2, h3, h4⟩ := hp'
  have g1 := wr_get (cs := chipC σ.step.2) h
  have eb := chip_ldBefore g1 (x := p / 8) (by omega) (by omega)
  have hbf := hw (p / 8)
  rw [← step_b σ] at hbf
  have fin : ∀ (v : Value) (mm : Mem), nand_Chip_Write_j1 k p a 64 (some ⟨c, chA p q, none⟩, v, mm) ⟨c, 0, none⟩ (wr m c (chipC (σ.step.2.updB (p / 8) (σ.step.2.b (p / 8)).worn))) =
      some (errC (if (σ.step.2.b (p / 8)).worn.failed = true then (8, σ.step.2.updB (p / 8) (σ.step.2.b (p / 8)).worn) else (0, (σ.step.2.updB (p / 8) (σ.step.2.b (p / 8)).worn).put p q ⟨f, f, true, 0⟩) : Int × ChipS).1,
        wr m c (chipC (if (σ.step.2.b (p / 8)).worn.failed = true then (8, σ.step.2.updB (p / 8) (σ.step.2.b (p / 8)).worn) else (0, (σ.step.2.updB (p / 8) (σ.step.2.b (p / 8)).worn).put p q ⟨f, f, true, 0⟩) : Int × ChipS).2)) := by
    intro v mm
    rw [write_j1 k (wr_get h) hp (hsrc rfl _), updB_b]
    split
    · rfl
    · rw [wr_wr]; rfl
  by_cases hz : (σ.step.2.b (p / 8)).before > 0
  · have hworn : (σ.step.2.b (p / 8)).worn = { σ.step.2.b (p / 8) with before := (σ.step.2.b (p / 8)).before - 1, failed := (σ.step.2.b (p / 8)).failed || (σ.step.2.b (p / 8)).before - 1 == 0 } := by
      unfold BlockS.worn; rw [if_pos hz]
    have e2 := chip_stBefore g1 (x := p / 8) (by omega) (by omega) ((σ.step.2.b (p / 8)).before - 1)
    rw [wr_wr] at e2
    have g2 := wr_get (cs := chipC (σ.step.2.updB (p / 8) { σ.step.2.b (p / 8) with before := (σ.step.2.b (p / 8)).before - 1 })) h
    have e3 := chip_ldFailed g2 (x := p / 8) (by omega) (by omega)
    rw [updB_b] at e3
    have e4 := chip_ldBefore g2 (x := p / 8) (by omega) (by omega)
    rw [updB_b] at e4
    cases hf : (σ.step.2.b (p / 8)).failed with
    | true =>
      rw [hf, Bool.true_or] at hworn
      have e5 := chip_stFailed g2 (x := p / 8) (by omega) (by omega) true
      rw [updB_b, updB_updB, wr_wr] at e5
      rw [hworn] at fin ⊢
      have e3 := e3.trans (congrArg some hf)
      simp (disch := omega) only [Option.bind_some, Option.map_some, cond_true, cond_false, wrap_i64, tmod_pos, tdiv_pos, inRange_yes, inUpto_yes, isZero_no, decide_eq_true, decide_eq_false, Bool.not_true, Bool.not_false, Int.toNat_natCast, Nat.mul_one, beqI_yes, beqI_no, bneI_yes, bneI_no, isNil_nil, isNil_iface, wr_wr, Option.isNone_none, Option.isNone_some, plus, Nat.zero_add, Nat.add_zero, chip_ldOff h, ho, chip_ldIs h hp, hi, hst, isNil_errC, e, eb, e2, e3, e5, fin]
    | false =>
      rw [hf, Bool.false_or] at hworn
      have e5 := chip_stFailed g2 (x := p / 8) (by omega) (by omega) ((σ.step.2.b (p / 8)).before - 1 == 0)
      rw [updB_b, updB_updB, wr_wr] at e5
      rw [hworn] at fin ⊢
      have e3 := e3.trans (congrArg some hf)
      simp (disch := omega) only [Option.bind_some, Option.map_some, cond_true, cond_false, wrap_i64, tmod_pos, tdiv_pos, inRange_yes, inUpto_yes, isZero_no, decide_eq_true, decide_eq_false, Bool.not_true, Bool.not_false, Int.toNat_natCast, Nat.mul_one, beqI_yes, beqI_no, bneI_yes, bneI_no, isNil_nil, isNil_iface, wr_wr, Option.isNone_none, Option.isNone_some, plus, Nat.zero_add, Nat.add_zero, chip_ldOff h, ho, chip_ldIs h hp, hi, hst, isNil_errC, e, eb, e2, e3, e4, e5, fin]
  · have hworn : (σ.step.2.b (p / 8)).worn = σ.step.2.b (p / 8) := by
      unfold BlockS.worn; rw [if_neg hz]
    rw [hworn, updB_self] at fin ⊢
    simp (disch := omega) only [Option.bind_some, Option.map_some, cond_true, cond_false, wrap_i64, tmod_pos, tdiv_pos, inRange_yes, inUpto_yes, isZero_no, decide_eq_true, decide_eq_false, Bool.not_true, Bool.not_false, Int.toNat_natCast, Nat.mul_one, beqI_yes, beqI_no, bneI_yes, bneI_no, isNil_nil, isNil_iface, wr_wr, Option.isNone_none, Option.isNone_some, plus, Nat.zero_add, Nat.add_zero, chip_ldOff h, ho, chip_ldIs h hp, hi, hst, isNil_errC, e, eb, fin]
end
end Go.Proofs.Ytlbbcgjfkpnilaa
