/- Two chips: writes, erases, harm. -/
import Derived.Test.YtlbbcgjfkpnilaaTwo3
set_option linter.unusedVariables false
set_option linter.unusedSectionVars false
set_option linter.unusedSimpArgs false
namespace Go.Proofs.Ytlbbcgjfkpnilaa
open Go.Mx

section
variable (k : Nat) (hk : 1000 < k) {m0 m : Mem} {T c d r s n : Nat} {ro : Nat → Option Role} {gr gs : RG} {σ τ υ : ChipS} {X : TX} (h : TI m0 m T c d r s ro gr gs σ σ τ υ X) (hw : Wf n σ) (hn : n < 4000000000000) (hX : Eqs X) (hN : X.N ≤ n)
  {kk a b : Int} {sa : Option Addr} {sn sc : Nat} {w : Nat → GF} (hd : ∀ M, Gr m0 M → Src M sa sn w) (hsn : sn ≤ 140737488351232) (hkn : sn + 5 < k)
  (ha : -9223372036854775808 ≤ a ∧ a < 9223372036854775808) (hb : -9223372036854775808 ≤ b ∧ b < 9223372036854775808)
include hk h hw hn hX hN hd hsn hkn ha hb

theorem two_erase (hp : ∀ M, patinalaw05_pick k kk 11 M = some (2, M)) : Ok (patinalaw05_Two_step k (some ⟨T, 0, none⟩) [.int .i64 kk, .int .i64 a, .int .i64 b, .slice sa sn sc] m) (Did m0 T c d r s n gs τ υ X.lo) := by
  unfold patinalaw05_Two_step
  have L4 : Nat.beq (List.length [Value.int .i64 kk, .int .i64 a, .int .i64 b, .slice sa sn sc]) 4 = true := rfl
  have ho := get_last (m := m) (o := .live [Value.int .i64 kk, .int .i64 a, .int .i64 b, .slice sa sn sc]) rfl
  have h1 := h.grow (Gr.app m [.live [Value.int .i64 kk, .int .i64 a, .int .i64 b, .slice sa sn sc]])
  have z0 : ((2 : Int) == 0) = false := rfl
  have z1 : ((2 : Int) == 1) = false := rfl
  have z2 : ((2 : Int) == 2) = true := rfl
  generalize m ++ [.live [Value.int .i64 kk, .int .i64 a, .int .i64 b, .slice sa sn sc]] = m1 at *
  have p0 : ldInt .i64 m1 ⟨m.length, 0, none⟩ = some kk := ldInt_of ho rfl
  have p1 : ldInt .i64 m1 ⟨m.length, 1, none⟩ = some a := ldInt_of ho rfl
  have p1b : ldInt .i64 m1 ⟨m.length, 2, none⟩ = some b := ldInt_of ho rfl
  have q0 : ldPtr m1 ⟨T, 0, none⟩ = some (some ⟨c, 0, none⟩) := ldPtr_of h1.t_.1 rfl
  have oc : m.length ≠ c := fun he => by have := (h.lt c (by rw [h.c_.2]; simp)).2; omega
  have ol := get_lt ho
  have hst := hw.steps
  have hbd := hw.bud
  have hcc := h1.c_.1
  obtain ⟨g, e1⟩ := nand_Erase_ok k hcc (by omega) ⟨hst.1, by omega⟩ hbd a
  have h2 := h1.chip (m' := wr m1 c (chipC ((σ.erase a).2))) (by rw [wr_len]; exact Nat.le_refl _) (fun p _ hp => wr_ne (Ne.symm hp)) (wr_get hcc)
  have h2 := h2.grow (Gr.app _ g)
  have ho2 : (wr m1 c (chipC (σ.erase a).2) ++ g)[m.length]? = some (.live [Value.int .i64 kk, .int .i64 a, .int .i64 b, .slice sa sn sc]) := get_grow (by rw [wr_ne (Ne.symm oc)]; exact ho)
  have p2 : ldInt .i64 ((wr m1 c (chipC (σ.erase a).2) ++ g)) ⟨m.length, 1, none⟩ = some a := ldInt_of ho2 rfl
  have p2b : ldInt .i64 ((wr m1 c (chipC (σ.erase a).2) ++ g)) ⟨m.length, 2, none⟩ = some b := ldInt_of ho2 rfl
  have q2 : ldPtr ((wr m1 c (chipC (σ.erase a).2) ++ g)) ⟨T, 2, none⟩ = some (some ⟨r, 0, none⟩) := ldPtr_of h2.t_.1 rfl
  obtain ⟨⟨_, m3⟩, f1, rfl, lab', g', f2, f3⟩ := refErase_ok h2.r_ k (by omega) ⟨hst.1, by omega⟩ hbd a
  simp only at f2 f3
  obtain ⟨ro', h3⟩ := h2.ref f2 f3
  have cd := code_is k (σ.erase a).1 (wr m1 c (chipC (σ.erase a).2) ++ g) (erase_code σ a)
  simp (disch := omega) only [Option.bind_some, Option.map_some, cond_true, cond_false, wrap_i64, tmod_pos, tdiv_pos, inRange_yes, inUpto_yes, isZero_no, decide_eq_true, decide_eq_false, Bool.not_true, Bool.not_false, Int.toNat_natCast, Nat.mul_one, beqI_yes, beqI_no, bneI_yes, bneI_no, isNil_nil, isNil_iface, wr_wr, Option.isNone_none, Option.isNone_some, plus, Nat.zero_add, Nat.add_zero, L4, p0, hp, z0, z1, z2, q0, p1, e1, cd, q2, p2, f1, decide_true, beq_self_eq_true]
  exact .some ⟨rfl, ro', g', _, X, h3, hw.erase a, hX, by omega, rfl⟩

theorem two_flip (hp : ∀ M, patinalaw05_pick k kk 11 M = some (3, M)) : Ok (patinalaw05_Two_step k (some ⟨T, 0, none⟩) [.int .i64 kk, .int .i64 a, .int .i64 b, .slice sa sn sc] m) (Did m0 T c d r s n gs τ υ X.lo) := by
  unfold patinalaw05_Two_step
  have L4 : Nat.beq (List.length [Value.int .i64 kk, .int .i64 a, .int .i64 b, .slice sa sn sc]) 4 = true := rfl
  have ho := get_last (m := m) (o := .live [Value.int .i64 kk, .int .i64 a, .int .i64 b, .slice sa sn sc]) rfl
  have h1 := h.grow (Gr.app m [.live [Value.int .i64 kk, .int .i64 a, .int .i64 b, .slice sa sn sc]])
  have z0 : ((3 : Int) == 0) = false := rfl
  have z1 : ((3 : Int) == 1) = false := rfl
  have z2 : ((3 : Int) == 2) = false := rfl
  have z3 : ((3 : Int) == 3) = true := rfl
  generalize m ++ [.live [Value.int .i64 kk, .int .i64 a, .int .i64 b, .slice sa sn sc]] = m1 at *
  have p0 : ldInt .i64 m1 ⟨m.length, 0, none⟩ = some kk := ldInt_of ho rfl
  have p1 : ldInt .i64 m1 ⟨m.length, 1, none⟩ = some a := ldInt_of ho rfl
  have p1b : ldInt .i64 m1 ⟨m.length, 2, none⟩ = some b := ldInt_of ho rfl
  have q0 : ldPtr m1 ⟨T, 0, none⟩ = some (some ⟨c, 0, none⟩) := ldPtr_of h1.t_.1 rfl
  have oc : m.length ≠ c := fun he => by have := (h.lt c (by rw [h.c_.2]; simp)).2; omega
  have ol := get_lt ho
  have hst := hw.steps
  have hbd := hw.bud
  have hcc := h1.c_.1
  have e1 := nand_Flip_all k (by omega) hcc a b
  have h2 := h1.chip (m' := wr m1 c (chipC (if 0 ≤ a ∧ a < 96 ∧ 0 ≤ b ∧ b < 2048 then σ.flip a b else σ))) (by rw [wr_len]; exact Nat.le_refl _) (fun p _ hp => wr_ne (Ne.symm hp)) (wr_get hcc)
  have ho2 : (wr m1 c (chipC (if 0 ≤ a ∧ a < 96 ∧ 0 ≤ b ∧ b < 2048 then σ.flip a b else σ)))[m.length]? = some (.live [Value.int .i64 kk, .int .i64 a, .int .i64 b, .slice sa sn sc]) := by rw [wr_ne (Ne.symm oc)]; exact ho
  have p2 : ldInt .i64 ((wr m1 c (chipC (if 0 ≤ a ∧ a < 96 ∧ 0 ≤ b ∧ b < 2048 then σ.flip a b else σ)))) ⟨m.length, 1, none⟩ = some a := ldInt_of ho2 rfl
  have p2b : ldInt .i64 ((wr m1 c (chipC (if 0 ≤ a ∧ a < 96 ∧ 0 ≤ b ∧ b < 2048 then σ.flip a b else σ)))) ⟨m.length, 2, none⟩ = some b := ldInt_of ho2 rfl
  have q2 : ldPtr ((wr m1 c (chipC (if 0 ≤ a ∧ a < 96 ∧ 0 ≤ b ∧ b < 2048 then σ.flip a b else σ)))) ⟨T, 2, none⟩ = some (some ⟨r, 0, none⟩) := ldPtr_of h2.t_.1 rfl
  obtain ⟨m3, g', f1, f2, f3⟩ := refFlip_is h2.r_ k (by omega) a b
  obtain ⟨ro', h3⟩ := h2.ref f2 (Lx.of f3)
  have cd := code_is k (if 0 ≤ a ∧ a < 96 ∧ 0 ≤ b ∧ b < 2048 then 0 else 1) (wr m1 c (chipC (if 0 ≤ a ∧ a < 96 ∧ 0 ≤ b ∧ b < 2048 then σ.flip a b else σ))) (by split <;> omega)
  simp (disch := omega) only [Option.bind_some, Option.map_some, cond_true, cond_false, wrap_i64, tmod_pos, tdiv_pos, inRange_yes, inUpto_yes, isZero_no, decide_eq_true, decide_eq_false, Bool.not_true, Bool.not_false, Int.toNat_natCast, Nat.mul_one, beqI_yes, beqI_no, bneI_yes, bneI_no, isNil_nil, isNil_iface, wr_wr, Option.isNone_none, Option.isNone_some, plus, Nat.zero_add, Nat.add_zero, L4, p0, hp, z0, z1, z2, z3, q0, p1, p1b, e1, cd, q2, p2, p2b, f1, decide_true, beq_self_eq_true]
  refine .some ⟨rfl, ro', g', _, X, h3, ?_, hX, by omega, rfl⟩
  split
  · rename_i hh; exact (hw.flip a b hh.2.2.1).mono (by omega)
  · exact hw.mono (by omega)

theorem two_failp (hp : ∀ M, patinalaw05_pick k kk 11 M = some (4, M)) : Ok (patinalaw05_Two_step k (some ⟨T, 0, none⟩) [.int .i64 kk, .int .i64 a, .int .i64 b, .slice sa sn sc] m) (Did m0 T c d r s n gs τ υ X.lo) := by
  unfold patinalaw05_Two_step
  have L4 : Nat.beq (List.length [Value.int .i64 kk, .int .i64 a, .int .i64 b, .slice sa sn sc]) 4 = true := rfl
  have ho := get_last (m := m) (o := .live [Value.int .i64 kk, .int .i64 a, .int .i64 b, .slice sa sn sc]) rfl
  have h1 := h.grow (Gr.app m [.live [Value.int .i64 kk, .int .i64 a, .int .i64 b, .slice sa sn sc]])
  have z0 : ((4 : Int) == 0) = false := rfl
  have z1 : ((4 : Int) == 1) = false := rfl
  have z2 : ((4 : Int) == 2) = false := rfl
  have z3 : ((4 : Int) == 3) = false := rfl
  have z4 : ((4 : Int) == 4) = true := rfl
  generalize m ++ [.live [Value.int .i64 kk, .int .i64 a, .int .i64 b, .slice sa sn sc]] = m1 at *
  have p0 : ldInt .i64 m1 ⟨m.length, 0, none⟩ = some kk := ldInt_of ho rfl
  have p1 : ldInt .i64 m1 ⟨m.length, 1, none⟩ = some a := ldInt_of ho rfl
  have p1b : ldInt .i64 m1 ⟨m.length, 2, none⟩ = some b := ldInt_of ho rfl
  have q0 : ldPtr m1 ⟨T, 0, none⟩ = some (some ⟨c, 0, none⟩) := ldPtr_of h1.t_.1 rfl
  have oc : m.length ≠ c := fun he => by have := (h.lt c (by rw [h.c_.2]; simp)).2; omega
  have ol := get_lt ho
  have hst := hw.steps
  have hbd := hw.bud
  have hcc := h1.c_.1
  have e1 := nand_FailProgram_is k hcc a b hb.2
  have e1' : nand_Chip_FailProgram k (some ⟨c, 0, none⟩) a b m1 = some (errC (if 0 ≤ a ∧ a < 12 ∧ 0 ≤ b then 0 else 1), wr m1 c (chipC (if 0 ≤ a ∧ a < 12 ∧ 0 ≤ b then σ.updB a { σ.b a with before := (if b ≤ 9223372036854775806 then b else 9223372036854775806) + 1 } else σ))) := by
    rw [e1]
    by_cases hh : 0 ≤ a ∧ a < 12 ∧ 0 ≤ b
    · rw [if_pos hh, if_pos hh, if_pos hh]; rfl
    · rw [if_neg hh, if_neg hh, if_neg hh, wr_same hcc]
  have h2 := h1.chip (m' := wr m1 c (chipC (if 0 ≤ a ∧ a < 12 ∧ 0 ≤ b then σ.updB a { σ.b a with before := (if b ≤ 9223372036854775806 then b else 9223372036854775806) + 1 } else σ))) (by rw [wr_len]; exact Nat.le_refl _) (fun p _ hp => wr_ne (Ne.symm hp)) (wr_get hcc)
  have ho2 : (wr m1 c (chipC (if 0 ≤ a ∧ a < 12 ∧ 0 ≤ b then σ.updB a { σ.b a with before := (if b ≤ 9223372036854775806 then b else 9223372036854775806) + 1 } else σ)))[m.length]? = some (.live [Value.int .i64 kk, .int .i64 a, .int .i64 b, .slice sa sn sc]) := by rw [wr_ne (Ne.symm oc)]; exact ho
  have p2 : ldInt .i64 ((wr m1 c (chipC (if 0 ≤ a ∧ a < 12 ∧ 0 ≤ b then σ.updB a { σ.b a with before := (if b ≤ 9223372036854775806 then b else 9223372036854775806) + 1 } else σ)))) ⟨m.length, 1, none⟩ = some a := ldInt_of ho2 rfl
  have p2b : ldInt .i64 ((wr m1 c (chipC (if 0 ≤ a ∧ a < 12 ∧ 0 ≤ b then σ.updB a { σ.b a with before := (if b ≤ 9223372036854775806 then b else 9223372036854775806) + 1 } else σ)))) ⟨m.length, 2, none⟩ = some b := ldInt_of ho2 rfl
  have q2 : ldPtr ((wr m1 c (chipC (if 0 ≤ a ∧ a < 12 ∧ 0 ≤ b then σ.updB a { σ.b a with before := (if b ≤ 9223372036854775806 then b else 9223372036854775806) + 1 } else σ)))) ⟨T, 2, none⟩ = some (some ⟨r, 0, none⟩) := ldPtr_of h2.t_.1 rfl
  obtain ⟨m3, g', f1, f2, f3⟩ := refFailProgram_is h2.r_ k a b hb.2 hst.1
  obtain ⟨ro', h3⟩ := h2.ref f2 (Lx.of f3)
  have cd := code_is k (if 0 ≤ a ∧ a < 12 ∧ 0 ≤ b then 0 else 1) (wr m1 c (chipC (if 0 ≤ a ∧ a < 12 ∧ 0 ≤ b then σ.updB a { σ.b a with before := (if b ≤ 9223372036854775806 then b else 9223372036854775806) + 1 } else σ))) (by split <;> omega)
  simp (disch := omega) only [Option.bind_some, Option.map_some, cond_true, cond_false, wrap_i64, tmod_pos, tdiv_pos, inRange_yes, inUpto_yes, isZero_no, decide_eq_true, decide_eq_false, Bool.not_true, Bool.not_false, Int.toNat_natCast, Nat.mul_one, beqI_yes, beqI_no, bneI_yes, bneI_no, isNil_nil, isNil_iface, wr_wr, Option.isNone_none, Option.isNone_some, plus, Nat.zero_add, Nat.add_zero, L4, p0, hp, z0, z1, z2, z3, z4, q0, p1, p1b, e1', cd, q2, p2, p2b, f1, decide_true, beq_self_eq_true]
  refine .some ⟨rfl, ro', g', _, X, h3, ?_, hX, by omega, rfl⟩
  split
  · rename_i hh; exact (hw.failP a hh.2.2).mono (by omega)
  · exact hw.mono (by omega)

theorem two_faile (hp : ∀ M, patinalaw05_pick k kk 11 M = some (5, M)) : Ok (patinalaw05_Two_step k (some ⟨T, 0, none⟩) [.int .i64 kk, .int .i64 a, .int .i64 b, .slice sa sn sc] m) (Did m0 T c d r s n gs τ υ X.lo) := by
  unfold patinalaw05_Two_step
  have L4 : Nat.beq (List.length [Value.int .i64 kk, .int .i64 a, .int .i64 b, .slice sa sn sc]) 4 = true := rfl
  have ho := get_last (m := m) (o := .live [Value.int .i64 kk, .int .i64 a, .int .i64 b, .slice sa sn sc]) rfl
  have h1 := h.grow (Gr.app m [.live [Value.int .i64 kk, .int .i64 a, .int .i64 b, .slice sa sn sc]])
  have z0 : ((5 : Int) == 0) = false := rfl
  have z1 : ((5 : Int) == 1) = false := rfl
  have z2 : ((5 : Int) == 2) = false := rfl
  have z3 : ((5 : Int) == 3) = false := rfl
  have z4 : ((5 : Int) == 4) = false := rfl
  have z5 : ((5 : Int) == 5) = true := rfl
  generalize m ++ [.live [Value.int .i64 kk, .int .i64 a, .int .i64 b, .slice sa sn sc]] = m1 at *
  have p0 : ldInt .i64 m1 ⟨m.length, 0, none⟩ = some kk := ldInt_of ho rfl
  have p1 : ldInt .i64 m1 ⟨m.length, 1, none⟩ = some a := ldInt_of ho rfl
  have p1b : ldInt .i64 m1 ⟨m.length, 2, none⟩ = some b := ldInt_of ho rfl
  have q0 : ldPtr m1 ⟨T, 0, none⟩ = some (some ⟨c, 0, none⟩) := ldPtr_of h1.t_.1 rfl
  have oc : m.length ≠ c := fun he => by have := (h.lt c (by rw [h.c_.2]; simp)).2; omega
  have ol := get_lt ho
  have hst := hw.steps
  have hbd := hw.bud
  have hcc := h1.c_.1
  have e1 := nand_FailErase_is k hcc a
  have e1' : nand_Chip_FailErase k (some ⟨c, 0, none⟩) a m1 = some (errC (if 0 ≤ a ∧ a < 12 then 0 else 1), wr m1 c (chipC (if 0 ≤ a ∧ a < 12 then σ.updB a { σ.b a with atErase := true } else σ))) := by
    rw [e1]
    by_cases hh : 0 ≤ a ∧ a < 12
    · rw [if_pos hh, if_pos hh, if_pos hh]; rfl
    · rw [if_neg hh, if_neg hh, if_neg hh, wr_same hcc]
  have h2 := h1.chip (m' := wr m1 c (chipC (if 0 ≤ a ∧ a < 12 then σ.updB a { σ.b a with atErase := true } else σ))) (by rw [wr_len]; exact Nat.le_refl _) (fun p _ hp => wr_ne (Ne.symm hp)) (wr_get hcc)
  have ho2 : (wr m1 c (chipC (if 0 ≤ a ∧ a < 12 then σ.updB a { σ.b a with atErase := true } else σ)))[m.length]? = some (.live [Value.int .i64 kk, .int .i64 a, .int .i64 b, .slice sa sn sc]) := by rw [wr_ne (Ne.symm oc)]; exact ho
  have p2 : ldInt .i64 ((wr m1 c (chipC (if 0 ≤ a ∧ a < 12 then σ.updB a { σ.b a with atErase := true } else σ)))) ⟨m.length, 1, none⟩ = some a := ldInt_of ho2 rfl
  have p2b : ldInt .i64 ((wr m1 c (chipC (if 0 ≤ a ∧ a < 12 then σ.updB a { σ.b a with atErase := true } else σ)))) ⟨m.length, 2, none⟩ = some b := ldInt_of ho2 rfl
  have q2 : ldPtr ((wr m1 c (chipC (if 0 ≤ a ∧ a < 12 then σ.updB a { σ.b a with atErase := true } else σ)))) ⟨T, 2, none⟩ = some (some ⟨r, 0, none⟩) := ldPtr_of h2.t_.1 rfl
  obtain ⟨m3, g', f1, f2, f3⟩ := refFailErase_is h2.r_ k a
  obtain ⟨ro', h3⟩ := h2.ref f2 (Lx.of f3)
  have cd := code_is k (if 0 ≤ a ∧ a < 12 then 0 else 1) (wr m1 c (chipC (if 0 ≤ a ∧ a < 12 then σ.updB a { σ.b a with atErase := true } else σ))) (by split <;> omega)
  simp (disch := omega) only [Option.bind_some, Option.map_some, cond_true, cond_false, wrap_i64, tmod_pos, tdiv_pos, inRange_yes, inUpto_yes, isZero_no, decide_eq_true, decide_eq_false, Bool.not_true, Bool.not_false, Int.toNat_natCast, Nat.mul_one, beqI_yes, beqI_no, bneI_yes, bneI_no, isNil_nil, isNil_iface, wr_wr, Option.isNone_none, Option.isNone_some, plus, Nat.zero_add, Nat.add_zero, L4, p0, hp, z0, z1, z2, z3, z4, z5, q0, p1, p1b, e1', cd, q2, p2, p2b, f1, decide_true, beq_self_eq_true]
  refine .some ⟨rfl, ro', g', _, X, h3, ?_, hX, by omega, rfl⟩
  split
  · rename_i hh; exact (hw.failE a).mono (by omega)
  · exact hw.mono (by omega)

theorem two_cut (hp : ∀ M, patinalaw05_pick k kk 11 M = some (6, M)) : Ok (patinalaw05_Two_step k (some ⟨T, 0, none⟩) [.int .i64 kk, .int .i64 a, .int .i64 b, .slice sa sn sc] m) (Did m0 T c d r s n gs τ υ X.lo) := by
  unfold patinalaw05_Two_step
  have L4 : Nat.beq (List.length [Value.int .i64 kk, .int .i64 a, .int .i64 b, .slice sa sn sc]) 4 = true := rfl
  have ho := get_last (m := m) (o := .live [Value.int .i64 kk, .int .i64 a, .int .i64 b, .slice sa sn sc]) rfl
  have h1 := h.grow (Gr.app m [.live [Value.int .i64 kk, .int .i64 a, .int .i64 b, .slice sa sn sc]])
  have z0 : ((6 : Int) == 0) = false := rfl
  have z1 : ((6 : Int) == 1) = false := rfl
  have z2 : ((6 : Int) == 2) = false := rfl
  have z3 : ((6 : Int) == 3) = false := rfl
  have z4 : ((6 : Int) == 4) = false := rfl
  have z5 : ((6 : Int) == 5) = false := rfl
  have z6 : ((6 : Int) == 6) = true := rfl
  generalize m ++ [.live [Value.int .i64 kk, .int .i64 a, .int .i64 b, .slice sa sn sc]] = m1 at *
  have p0 : ldInt .i64 m1 ⟨m.length, 0, none⟩ = some kk := ldInt_of ho rfl
  have p1 : ldInt .i64 m1 ⟨m.length, 1, none⟩ = some a := ldInt_of ho rfl
  have p1b : ldInt .i64 m1 ⟨m.length, 2, none⟩ = some b := ldInt_of ho rfl
  have q0 : ldPtr m1 ⟨T, 0, none⟩ = some (some ⟨c, 0, none⟩) := ldPtr_of h1.t_.1 rfl
  have oc : m.length ≠ c := fun he => by have := (h.lt c (by rw [h.c_.2]; simp)).2; omega
  have ol := get_lt ho
  have hst := hw.steps
  have hbd := hw.bud
  have hcc := h1.c_.1
  have e1 := nand_Cut_is k hcc a
  have e1' : nand_Chip_Cut k (some ⟨c, 0, none⟩) a m1 = some (errC (if a < 0 then 1 else 0), wr m1 c (chipC (if a < 0 then σ else if σ.off = true then σ else { σ with cut := true, budget := a }))) := by
    rw [e1]
    by_cases hh : a < 0
    · rw [if_pos hh, if_pos hh, if_pos hh, wr_same hcc]
    · rw [if_neg hh, if_neg hh, if_neg hh]; rfl
  have h2 := h1.chip (m' := wr m1 c (chipC (if a < 0 then σ else if σ.off = true then σ else { σ with cut := true, budget := a }))) (by rw [wr_len]; exact Nat.le_refl _) (fun p _ hp => wr_ne (Ne.symm hp)) (wr_get hcc)
  have ho2 : (wr m1 c (chipC (if a < 0 then σ else if σ.off = true then σ else { σ with cut := true, budget := a })))[m.length]? = some (.live [Value.int .i64 kk, .int .i64 a, .int .i64 b, .slice sa sn sc]) := by rw [wr_ne (Ne.symm oc)]; exact ho
  have p2 : ldInt .i64 ((wr m1 c (chipC (if a < 0 then σ else if σ.off = true then σ else { σ with cut := true, budget := a })))) ⟨m.length, 1, none⟩ = some a := ldInt_of ho2 rfl
  have p2b : ldInt .i64 ((wr m1 c (chipC (if a < 0 then σ else if σ.off = true then σ else { σ with cut := true, budget := a })))) ⟨m.length, 2, none⟩ = some b := ldInt_of ho2 rfl
  have q2 : ldPtr ((wr m1 c (chipC (if a < 0 then σ else if σ.off = true then σ else { σ with cut := true, budget := a })))) ⟨T, 2, none⟩ = some (some ⟨r, 0, none⟩) := ldPtr_of h2.t_.1 rfl
  obtain ⟨m3, f1, f2, f3⟩ := refCut_is h2.r_ k a
  obtain ⟨ro', h3⟩ := h2.ref f2 (Lx.of f3)
  have cd := code_is k (if a < 0 then 1 else 0) (wr m1 c (chipC (if a < 0 then σ else if σ.off = true then σ else { σ with cut := true, budget := a }))) (by split <;> omega)
  simp (disch := omega) only [Option.bind_some, Option.map_some, cond_true, cond_false, wrap_i64, tmod_pos, tdiv_pos, inRange_yes, inUpto_yes, isZero_no, decide_eq_true, decide_eq_false, Bool.not_true, Bool.not_false, Int.toNat_natCast, Nat.mul_one, beqI_yes, beqI_no, bneI_yes, bneI_no, isNil_nil, isNil_iface, wr_wr, Option.isNone_none, Option.isNone_some, plus, Nat.zero_add, Nat.add_zero, L4, p0, hp, z0, z1, z2, z3, z4, z5, z6, q0, p1, e1', cd, q2, p2, f1, decide_true, beq_self_eq_true]
  refine .some ⟨rfl, ro', _, _, X, h3, ?_, hX, by omega, rfl⟩
  split
  · exact hw.mono (by omega)
  · exact (hw.cut ⟨by omega, ha.2⟩).mono (by omega)

theorem two_power (hp : ∀ M, patinalaw05_pick k kk 11 M = some (7, M)) : Ok (patinalaw05_Two_step k (some ⟨T, 0, none⟩) [.int .i64 kk, .int .i64 a, .int .i64 b, .slice sa sn sc] m) (Did m0 T c d r s n gs τ υ X.lo) := by
  unfold patinalaw05_Two_step
  have L4 : Nat.beq (List.length [Value.int .i64 kk, .int .i64 a, .int .i64 b, .slice sa sn sc]) 4 = true := rfl
  have ho := get_last (m := m) (o := .live [Value.int .i64 kk, .int .i64 a, .int .i64 b, .slice sa sn sc]) rfl
  have h1 := h.grow (Gr.app m [.live [Value.int .i64 kk, .int .i64 a, .int .i64 b, .slice sa sn sc]])
  have z0 : ((7 : Int) == 0) = false := rfl
  have z1 : ((7 : Int) == 1) = false := rfl
  have z2 : ((7 : Int) == 2) = false := rfl
  have z3 : ((7 : Int) == 3) = false := rfl
  have z4 : ((7 : Int) == 4) = false := rfl
  have z5 : ((7 : Int) == 5) = false := rfl
  have z6 : ((7 : Int) == 6) = false := rfl
  have z7 : ((7 : Int) == 7) = true := rfl
  generalize m ++ [.live [Value.int .i64 kk, .int .i64 a, .int .i64 b, .slice sa sn sc]] = m1 at *
  have p0 : ldInt .i64 m1 ⟨m.length, 0, none⟩ = some kk := ldInt_of ho rfl
  have p1 : ldInt .i64 m1 ⟨m.length, 1, none⟩ = some a := ldInt_of ho rfl
  have p1b : ldInt .i64 m1 ⟨m.length, 2, none⟩ = some b := ldInt_of ho rfl
  have q0 : ldPtr m1 ⟨T, 0, none⟩ = some (some ⟨c, 0, none⟩) := ldPtr_of h1.t_.1 rfl
  have oc : m.length ≠ c := fun he => by have := (h.lt c (by rw [h.c_.2]; simp)).2; omega
  have ol := get_lt ho
  have hst := hw.steps
  have hbd := hw.bud
  have hcc := h1.c_.1
  have e1 := nand_Power_is k hcc
  have h2 := h1.chip (m' := wr m1 c (chipC ({ σ with off := false, cut := false, budget := 0 }))) (by rw [wr_len]; exact Nat.le_refl _) (fun p _ hp => wr_ne (Ne.symm hp)) (wr_get hcc)
  have ho2 : (wr m1 c (chipC { σ with off := false, cut := false, budget := 0 }))[m.length]? = some (.live [Value.int .i64 kk, .int .i64 a, .int .i64 b, .slice sa sn sc]) := by rw [wr_ne (Ne.symm oc)]; exact ho
  have p2 : ldInt .i64 ((wr m1 c (chipC { σ with off := false, cut := false, budget := 0 }))) ⟨m.length, 1, none⟩ = some a := ldInt_of ho2 rfl
  have p2b : ldInt .i64 ((wr m1 c (chipC { σ with off := false, cut := false, budget := 0 }))) ⟨m.length, 2, none⟩ = some b := ldInt_of ho2 rfl
  have q2 : ldPtr ((wr m1 c (chipC { σ with off := false, cut := false, budget := 0 }))) ⟨T, 2, none⟩ = some (some ⟨r, 0, none⟩) := ldPtr_of h2.t_.1 rfl
  obtain ⟨m3, f1, f2, f3⟩ := refAgain_is h2.r_ k
  obtain ⟨ro', h3⟩ := h2.ref f2 (Lx.of f3)
  simp (disch := omega) only [Option.bind_some, Option.map_some, cond_true, cond_false, wrap_i64, tmod_pos, tdiv_pos, inRange_yes, inUpto_yes, isZero_no, decide_eq_true, decide_eq_false, Bool.not_true, Bool.not_false, Int.toNat_natCast, Nat.mul_one, beqI_yes, beqI_no, bneI_yes, bneI_no, isNil_nil, isNil_iface, wr_wr, Option.isNone_none, Option.isNone_some, plus, Nat.zero_add, Nat.add_zero, L4, p0, hp, z0, z1, z2, z3, z4, z5, z6, z7, q0, e1, q2, f1, patinalaw05_Two_step_j1]
  exact .some ⟨rfl, ro', _, _, X, h3, hw.power.mono (by omega), hX, by omega, rfl⟩

theorem two_write (hp : ∀ M, patinalaw05_pick k kk 11 M = some (1, M)) : Ok (patinalaw05_Two_step k (some ⟨T, 0, none⟩) [.int .i64 kk, .int .i64 a, .int .i64 b, .slice sa sn sc] m) (Did m0 T c d r s n gs τ υ X.lo) := by
  unfold patinalaw05_Two_step
  have L4 : Nat.beq (List.length [Value.int .i64 kk, .int .i64 a, .int .i64 b, .slice sa sn sc]) 4 = true := rfl
  have ho := get_last (m := m) (o := .live [Value.int .i64 kk, .int .i64 a, .int .i64 b, .slice sa sn sc]) rfl
  have h1 := h.grow (Gr.app m [.live [Value.int .i64 kk, .int .i64 a, .int .i64 b, .slice sa sn sc]])
  have z0 : ((1 : Int) == 0) = false := rfl
  have z1 : ((1 : Int) == 1) = true := rfl
  generalize m ++ [.live [Value.int .i64 kk, .int .i64 a, .int .i64 b, .slice sa sn sc]] = m1 at *
  have p0 : ldInt .i64 m1 ⟨m.length, 0, none⟩ = some kk := ldInt_of ho rfl
  have p1 : ldInt .i64 m1 ⟨m.length, 1, none⟩ = some a := ldInt_of ho rfl
  have p1b : ldInt .i64 m1 ⟨m.length, 2, none⟩ = some b := ldInt_of ho rfl
  have q0 : ldPtr m1 ⟨T, 0, none⟩ = some (some ⟨c, 0, none⟩) := ldPtr_of h1.t_.1 rfl
  have oc : m.length ≠ c := fun he => by have := (h.lt c (by rw [h.c_.2]; simp)).2; omega
  have ol := get_lt ho
  have hst := hw.steps
  have hbd := hw.bud
  have hcc := h1.c_.1
  have l1 : ldSl m1 ⟨m.length, 3, none⟩ = some ⟨sa, sn, sc⟩ := ldSl_of ho rfl
  obtain ⟨⟨_, m2⟩, e1, x, D, E, u, rfl, hg2, hx2, hD2, hE2, hL, hu⟩ := lend_ok k hk (c := sc) (hd m1 h1.base) hsn
  simp only at hg2 hL
  have h2 := h1.grow hg2
  have b1 := bytes_is k hL
  have ho2 := hg2.get ho
  have p2 : ldInt .i64 m2 ⟨m.length, 1, none⟩ = some a := ldInt_of ho2 rfl
  have p2b : ldInt .i64 m2 ⟨m.length, 2, none⟩ = some b := ldInt_of ho2 rfl
  have q2 : ldPtr m2 ⟨T, 0, none⟩ = some (some ⟨c, 0, none⟩) := ldPtr_of h2.t_.1 rfl
  have cl := (h1.lt c (by rw [h1.c_.2]; simp)).2
  have Tl := (h1.lt T (by rw [h1.t_.2]; simp)).2
  have e2 := nand_Write_is k h2.c_.1 ⟨hst.1, by omega⟩ hbd hw.bf a b (a := some ⟨D, 0, some 1⟩) (n := sn) (cc := sn + 5) (f := byI u) (by
    intro h64 τ'
    subst h64
    exact Src.take (sp := some 1) (l := 64) (by rw [wr_ne (by omega)]; exact hL.d_) (by omega))
  have h3 := h2.chip (m' := wr m2 c (chipC (σ.write a b sn (byI u)).2)) (by rw [wr_len]; exact Nat.le_refl _) (fun p _ hp => wr_ne (Ne.symm hp)) (wr_get h2.c_.1)
  have hL3 : Lent (wr m2 c (chipC (σ.write a b sn (byI u)).2)) x D E sn u := ⟨hL.xd, hL.xe, hL.de, by rw [wr_ne (by omega)]; exact hL.x_, by rw [wr_ne (by omega)]; exact hL.d_, by rw [wr_ne (by omega)]; exact hL.e_⟩
  have k1 := kept_is k hL3 hkn (by omega)
  have ho3 : (wr m2 c (chipC (σ.write a b sn (byI u)).2))[m.length]? = some _ := (wr_ne (Ne.symm oc)).trans ho2
  obtain ⟨m4, t1, ⟨v, hv⟩, hf4, hl4, hG4⟩ := turn_ok k hL3 hkn hsn
  have xl := get_lt hL.x_
  have dl := get_lt hL.d_
  have el := get_lt hL.e_
  have hl3 : (wr m2 c (chipC (σ.write a b sn (byI u)).2)).length = m2.length := wr_len
  have h4 : TI m0 m4 T c d r s ro gr gs (σ.write a b sn (byI u)).2 σ τ υ X := by
    have nod : ∀ p, ro p ≠ none → p ≠ D ∧ p ≠ E := fun p hp => by have := (h1.lt p hp).2; omega
    have hk' : ∀ p, ro p ≠ none → m4[p]? = (wr m2 c (chipC (σ.write a b sn (byI u)).2))[p]? := fun p hp => hf4 p (nod p hp).1 (nod p hp).2
    refine ⟨hG4 m0 h3.base (by have := h1.base.len; omega) (by have := h1.base.len; omega), ⟨by rw [hk' T (by rw [h3.t_.2]; simp)]; exact h3.t_.1, h3.t_.2⟩, ⟨by rw [hk' c (by rw [h3.c_.2]; simp)]; exact h3.c_.1, h3.c_.2⟩, ⟨by rw [hk' d (by rw [h3.d_.2]; simp)]; exact h3.d_.1, h3.d_.2⟩,
      h3.r_.keep (by omega) (fun p hp => hk' p (lrOf_ne hp)), h3.s_.keep (by omega) (fun p hp => hk' p (lsOf_ne hp)), ?_, ?_, fun i hlo hi => ?_, fun i hlo hi => ?_, fun p hp => ⟨(h3.lt p hp).1, by have := (h3.lt p hp).2; omega⟩⟩
    · rcases h3.ta_ with h1 | ⟨q, h1, h2, h3⟩
      · exact .inl h1
      · exact .inr ⟨q, h1, by rw [hk' q (by rw [h3]; simp)]; exact h2, h3⟩
    · rcases h3.wa_ with h1 | ⟨q, h1, h2, h3⟩
      · exact .inl h1
      · exact .inr ⟨q, h1, by rw [hk' q (by rw [h3]; simp)]; exact h2, h3⟩
    · obtain ⟨g1, g2, g3⟩ := h3.rows i hlo hi
      exact ⟨g1, g2.keep fun D hD => hk' D (by rw [g3 D hD]; simp), g3⟩
    · obtain ⟨g1, g2, g3⟩ := h3.rows' i hlo hi
      exact ⟨g1, g2.keep fun D hD => hk' D (by rw [g3 D hD]; simp), g3⟩
  have ho4 : m4[m.length]? = some _ := (hf4 _ (by omega) (by omega)).trans ho3
  have p4 : ldInt .i64 m4 ⟨m.length, 1, none⟩ = some a := ldInt_of ho4 rfl
  have p4b : ldInt .i64 m4 ⟨m.length, 2, none⟩ = some b := ldInt_of ho4 rfl
  have l4 : ldSl m4 ⟨m.length, 3, none⟩ = some ⟨sa, sn, sc⟩ := ldSl_of ho4 rfl
  have q4 : ldPtr m4 ⟨T, 2, none⟩ = some (some ⟨r, 0, none⟩) := ldPtr_of h4.t_.1 rfl
  obtain ⟨m5, lab', g', f1, f2, f3⟩ := refWrite_is h4.r_ k ⟨hst.1, by omega⟩ hbd hw.bf a b (a := sa) (n := sn) (cc := sc) (w := u) (by
    intro h64 M hM
    have hg : Gr m0 M := by
      have hb := h4.base.len
      refine Ch.gr ⟨?_, fun p hp _ => ?_⟩
      · rcases Nat.lt_or_ge M.length m0.length with q1 | q1
        · exfalso
          have q2 := hM (m0.length - 1) (by omega) (by
            cases hr : lrOf ro (m0.length - 1) with
            | none => rfl
            | some l => have := (h4.lt _ (lrOf_ne (p := m0.length - 1) (by rw [hr]; simp))).1; omega)
          rw [List.getElem?_eq_none (by omega), List.getElem?_eq_getElem (by omega)] at q2
          cases q2
        · exact q1
      · have hn : lrOf ro p = none := by
          cases hr : lrOf ro p with
          | none => rfl
          | some l => have := (h4.lt _ (lrOf_ne (p := p) (by rw [hr]; simp))).1; omega
        rw [hM p (by omega) hn]
        obtain ⟨gg, hgg⟩ := h4.base
        rw [hgg]; exact get_app_lt hp
    rw [← h64]
    exact (hd M hg).congr hu)
  obtain ⟨ro', h5⟩ := h4.ref f2 f3
  have cd := code_is k (σ.write a b sn (byI u)).1 m5 (write_code σ a b sn (byI u))
  simp (disch := omega) only [Option.bind_some, Option.map_some, cond_true, cond_false, wrap_i64, tmod_pos, tdiv_pos, inRange_yes, inUpto_yes, isZero_no, decide_eq_true, decide_eq_false, Bool.not_true, Bool.not_false, Int.toNat_natCast, Nat.mul_one, beqI_yes, beqI_no, bneI_yes, bneI_no, isNil_nil, isNil_iface, wr_wr, Option.isNone_none, Option.isNone_some, plus, Nat.zero_add, Nat.add_zero, L4, p0, hp, z0, z1, l1, e1, q2, p2, p2b, b1, e2, decide_true, beq_self_eq_true, k1, t1, q4, p4, p4b, l4, f1, cd]
  exact .some ⟨rfl, ro', g', _, X, h5, hw.write a b sn u, hX, by omega, rfl⟩
end
end Go.Proofs.Ytlbbcgjfkpnilaa
