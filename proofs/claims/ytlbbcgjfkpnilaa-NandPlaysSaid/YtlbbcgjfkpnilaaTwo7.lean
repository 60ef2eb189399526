/- Two chips: the chip stands as the document's does. -/
import Derived.Test.YtlbbcgjfkpnilaaTwo6
set_option linter.unusedVariables false
set_option linter.unusedSectionVars false
set_option linter.unusedSimpArgs false
namespace Go.Proofs.Ytlbbcgjfkpnilaa
open Go.Mx

section
variable (k : Nat) (hk : 1000 < k) {m0 m : Mem} {T c d r s n : Nat} {ro : Nat → Option Role} {gr gs : RG} {σ τ υ : ChipS} {X : TX} (h : TI m0 m T c d r s ro gr gs σ σ τ υ X) (hw : Wf n σ) (hn : n < 4000000000000)
include hk h hw hn
/-- both read a page -/
theorem both_read (p : Int) : ∃ (R0 R0' : RA) (n0 : Nat) (w0 : Nat → GF) (e : Int) (σ' : ChipS) (m2 m3 : Mem), nand_Chip_Read k (some ⟨c, 0, none⟩) p m = some (⟨rowA R0, n0, n0⟩, errC e, m2) ∧ ldPtr m2 ⟨T, 2, none⟩ = some (some ⟨r, 0, none⟩) ∧
    patinaref05_Chip_Read k (some ⟨r, 0, none⟩) p m2 = some (⟨rowA R0', n0, n0⟩, e, m3) ∧ TI m0 m3 T c d r s ro gr gs σ' σ' τ υ X ∧ Src m3 (rowA R0) n0 w0 ∧ Src m3 (rowA R0') n0 w0 ∧ Wf (n + 1) σ' ∧ n0 < 1000 ∧ (0 ≤ p ∧ p < 96 → σ.off = false → e = 0 ∧ σ'.off = false) := by
  obtain ⟨R0, n0, w0, e, σ', m2, e1, e2, e3, e4, e5, e6, e7, e8, e9, e10, e11⟩ := chipRead_all k (by omega) h.c_.1 hw (by omega) p
  have h2 := h.chip e3 e4 e2
  have q2 : ldPtr m2 ⟨T, 2, none⟩ = some (some ⟨r, 0, none⟩) := ldPtr_of h2.t_.1 rfl
  have fre : ∀ D, rowD R0 = some D → ro D = none := fun D hD => by
    cases hr : ro D with
    | none => rfl
    | some l => have := (h.lt D (by rw [hr]; simp)).2; have := e6 D hD; omega
  rcases e11 with ⟨c1, rfl, rfl, rfl, rfl⟩ | ⟨c1, c2, rfl, rfl, rfl, rfl⟩ | ⟨c1, c2, ⟨D, rfl⟩, rfl, rfl, rfl, c3⟩
  · exact ⟨none, none, 0, w0, 1, σ', m2, m2, e1, q2, refRead_no h2.r_ k c1, h2, e5.src, e5.src, e10, e7, fun h => absurd h c1⟩
  · exact ⟨none, none, 0, w0, 7, σ', m2, m2, e1, q2, refRead_off h2.r_ k c1 c2, h2, e5.src, e5.src, e10, e7, fun _ h => by rw [c2] at h; cases h⟩
  · have hr := hw.rd (p / 8)
    obtain ⟨⟨_, _, m3⟩, f1, D', rfl, rfl, f2, f3, f4, f5⟩ := refRead_ok h2.r_ k (by omega) c1 c2 ⟨hr.1, by omega⟩ c3
    simp only at f2 f3 f4 f5
    have hlen := f3.len
    have Dlt := e5.lt D rfl
    have rD : lrOf ro D = none := by unfold lrOf; rw [fre D rfl]
    have key : TI m0 m3 T c d r s ro gr gs (σ.readd p) (σ.readd p) τ υ X := by
      have hk' : ∀ p l, ro p = some l → (∀ x, l ≠ .r x) → m3[p]? = m2[p]? := fun p l hp hl => f3.get p (h2.lt p (by rw [hp]; simp)).2 fun hx => by
        obtain ⟨y, hy, _⟩ := lrOf_some hx
        rw [hp] at hy; cases hy; exact hl y rfl
      refine ⟨h2.gr_of hlen fun p hp hn => f3.get p hp fun hx => lrOf_ne hx hn, ⟨by rw [hk' T _ h2.t_.2 (by simp)]; exact h2.t_.1, h2.t_.2⟩, ⟨by rw [hk' c _ h2.c_.2 (by simp)]; exact h2.c_.1, h2.c_.2⟩, ⟨by rw [hk' d _ h2.d_.2 (by simp)]; exact h2.d_.1, h2.d_.2⟩, f2, h2.s_.keep hlen fun p hp => (by obtain ⟨l, h1, _⟩ := lsOf_some hp; exact hk' p _ h1 (by simp)), ?_, ?_, fun i hlo hi => ?_, fun i hlo hi => ?_, fun p hp => ⟨(h2.lt p hp).1, Nat.lt_of_lt_of_le (h2.lt p hp).2 hlen⟩⟩
      · rcases h2.ta_ with h1 | ⟨q, h1, h3, h4⟩
        · exact .inl h1
        · exact .inr ⟨q, h1, by rw [hk' q _ h4 (by simp)]; exact h3, h4⟩
      · rcases h2.wa_ with h1 | ⟨q, h1, h3, h4⟩
        · exact .inl h1
        · exact .inr ⟨q, h1, by rw [hk' q _ h4 (by simp)]; exact h3, h4⟩
      · obtain ⟨g1, g2, g3⟩ := h2.rows i hlo hi
        exact ⟨g1, g2.keep fun D hD => hk' D _ (g3 D hD) (by simp), g3⟩
      · obtain ⟨g1, g2, g3⟩ := h2.rows' i hlo hi
        exact ⟨g1, g2.keep fun D hD => hk' D _ (g3 D hD) (by simp), g3⟩
    have g1 : RowLive m3 (some (D', true)) 256 256 (fun u => ∀ k, k < 256 → u k = w0 k) := ⟨w0, f5, fun _ _ => rfl, Nat.le_refl _, fun _ => rfl⟩
    have g4 : RowLive m3 (some (D, false)) 256 256 (fun u => ∀ k, k < 256 → u k = w0 k) := e5.keep fun D hD => by cases hD; exact f3.get _ Dlt (fun h => h rD)
    exact ⟨some (D, false), some (D', true), 256, w0, 0, σ.readd p, m2, m3, e1, q2, f1, key, g4.src, g1.src, e10, e7, fun _ h => ⟨rfl, h⟩⟩

variable (hX : Eqs X) (hN : X.N < 3500000000000)
include hX hN
theorem two_stands (hn3 : n < 3000000000000) : Ok (patinalaw05_Two_stands k (some ⟨T, 0, none⟩) m) fun x => x.1 = true ∧ ∃ ro' σ' X', TI m0 x.2 T c d r s ro' gr gs σ' σ' τ υ X' ∧ Wf (n + 96) σ' ∧ Eqs X' ∧ X'.N ≤ X.N + 12 ∧ X'.lo = X.lo := by
  unfold patinalaw05_Two_stands
  refine patinalaw05_Two_stands_l0_rule k _ _ (fun d0 x0 x3 M => (some ⟨T, 0, none⟩ : Option Addr) = x0 ∧ 0 ≤ x3 ∧ x3 + d0 = 12 ∧ ∃ ro' X', TI m0 M T c d r s ro' gr gs σ σ τ υ X' ∧ Eqs X' ∧ (X'.N : Int) = X.N + x3 ∧ X'.lo = X.lo) ?_ k 12 _ _ _ (by omega)
    ⟨rfl, by omega, by omega, ro, X, h, hX, by omega, rfl⟩
  rintro d0 nx0 _ b M ⟨rfl, hb0, hb1, ro1, X1, h1, hX1, hN1, hlo1⟩ hnx0
  unfold patinalaw05_Two_stands_l0_b
  by_cases hb : b < 12
  · have w1 : IntKind.wrap .i64 (8 * b) = 8 * b := wrap_i64 (by omega) (by omega)
    rw [decide_eq_true hb, cond_true, w1]
    refine patinalaw05_Two_stands_l2_rule k _ _ (fun d2 x0 x3 x4 M => (some ⟨T, 0, none⟩ : Option Addr) = x0 ∧ b = x3 ∧ 8 * b ≤ x4 ∧ x4 + d2 = 8 * b + 8 ∧ TI m0 M T c d r s ro1 gr gs σ σ τ υ X1) ?_ k 8 _ _ _ _ (by omega)
      ⟨rfl, rfl, by omega, by omega, h1⟩
    rintro d2 nx2 _ _ at_ M2 ⟨rfl, rfl, ha0, ha1, h2⟩ hnx2
    unfold patinalaw05_Two_stands_l2_b
    have w2 : IntKind.wrap .i64 (IntKind.wrap .i64 (8 * b) + 8) = 8 * b + 8 := by rw [w1]; exact wrap_i64 (by omega) (by omega)
    rw [w2]
    by_cases ha : at_ < 8 * b + 8
    · rw [decide_eq_true ha, cond_true]
      refine patinalaw05_Two_stands_l4_rule k _ _ (fun d4 x0 x3 x4 x5 M => (some ⟨T, 0, none⟩ : Option Addr) = x0 ∧ b = x3 ∧ at_ = x4 ∧ 0 ≤ x5 ∧ x5 + d4 = 4 ∧ TI m0 M T c d r s ro1 gr gs σ σ τ υ X1) ?_ k 4 _ _ _ _ _ (by omega)
        ⟨rfl, rfl, rfl, by omega, by omega, h2⟩
      rintro d4 nx4 _ _ _ q M4 ⟨rfl, rfl, rfl, hq0, hq1, h4⟩ hnx4
      unfold patinalaw05_Two_stands_l4_b
      by_cases hq : q < 4
      · have hp : isAt at_ q := ⟨by omega, by omega, hq0, hq⟩
        have q0 : ldPtr M4 ⟨T, 0, none⟩ = some (some ⟨c, 0, none⟩) := ldPtr_of h4.t_.1 rfl
        have q2 : ldPtr M4 ⟨T, 2, none⟩ = some (some ⟨r, 0, none⟩) := ldPtr_of h4.t_.1 rfl
        have e1 := nand_Damage_is k h4.c_.1 (by omega) at_ q
        rw [if_pos hp] at e1
        have e2 := refDamage_is h4.r_ k (by omega) at_ q
        rw [if_pos hp] at e2
        have e3 := nand_Truth_is k h4.c_.1 at_ q
        rw [if_pos hp] at e3
        have h5 := h4.grow (Gr.app M4 [.live (arr .u8 64 (σ.at_ at_ q).tru)])
        have e4 := refTruth_is h5.r_ k at_ q
        rw [if_pos hp] at e4
        generalize M4 ++ [.live (arr .u8 64 (σ.at_ at_ q).tru)] = M5 at *
        have q3 : ldPtr M5 ⟨T, 2, none⟩ = some (some ⟨r, 0, none⟩) := ldPtr_of h5.t_.1 rfl
        have nn : isNil .nilIface = some true := rfl
        simp (disch := omega) only [Option.bind_some, Option.map_some, cond_true, cond_false, wrap_i64, tmod_pos, tdiv_pos, inRange_yes, inUpto_yes, isZero_no, decide_eq_true, decide_eq_false, Bool.not_true, Bool.not_false, Int.toNat_natCast, Nat.mul_one, beqI_yes, beqI_no, bneI_yes, bneI_no, isNil_nil, isNil_iface, wr_wr, Option.isNone_none, Option.isNone_some, plus, Nat.zero_add, Nat.add_zero, decide_eq_true hq, q0, e1, q2, e2, e3, q3, e4, nn, bne_self_eq_false, beq_self_eq_true]
        exact hnx4 (d4 - 1) _ _ _ _ _ (by omega) ⟨rfl, rfl, rfl, by omega, by omega, h5⟩
      · simp (disch := omega) only [Option.bind_some, Option.map_some, cond_true, cond_false, wrap_i64, tmod_pos, tdiv_pos, inRange_yes, inUpto_yes, isZero_no, decide_eq_true, decide_eq_false, Bool.not_true, Bool.not_false, Int.toNat_natCast, Nat.mul_one, beqI_yes, beqI_no, bneI_yes, bneI_no, isNil_nil, isNil_iface, wr_wr, Option.isNone_none, Option.isNone_some, plus, Nat.zero_add, Nat.add_zero]
        exact hnx2 (d2 - 1) _ _ _ _ (by omega) ⟨rfl, rfl, by omega, by omega, h4⟩
    · rw [decide_eq_false ha, cond_false]
      refine .bind (two_knows k hk h2 hw hX1 (by omega) b 0) ?_
      rintro ⟨_, M3⟩ ⟨rfl, ro3, X3, h3, hX3, hN3, hlo3⟩
      simp (disch := omega) only [Option.bind_some, Option.map_some, cond_true, cond_false, wrap_i64, tmod_pos, tdiv_pos, inRange_yes, inUpto_yes, isZero_no, decide_eq_true, decide_eq_false, Bool.not_true, Bool.not_false, Int.toNat_natCast, Nat.mul_one, beqI_yes, beqI_no, bneI_yes, bneI_no, isNil_nil, isNil_iface, wr_wr, Option.isNone_none, Option.isNone_some, plus, Nat.zero_add, Nat.add_zero]
      exact hnx0 (d0 - 1) _ _ _ (by omega) ⟨rfl, by omega, by omega, ro3, X3, h3, hX3, by omega, by omega⟩
  · rw [decide_eq_false hb, cond_false]
    have q0 : ldPtr M ⟨T, 0, none⟩ = some (some ⟨c, 0, none⟩) := ldPtr_of h1.t_.1 rfl
    have e1 := nand_Power_is k h1.c_.1
    have h2 := h1.chip (m' := wr M c (chipC ({ σ with off := false, cut := false, budget := 0 }))) (by rw [wr_len]; exact Nat.le_refl _) (fun p _ hp => wr_ne (Ne.symm hp)) (wr_get h1.c_.1)
    have q2 : ldPtr (wr M c (chipC { σ with off := false, cut := false, budget := 0 })) ⟨T, 2, none⟩ = some (some ⟨r, 0, none⟩) := ldPtr_of h2.t_.1 rfl
    obtain ⟨m3, f1, f2, f3⟩ := refAgain_is h2.r_ k
    obtain ⟨ro', h3⟩ := h2.ref f2 (Lx.of f3)
    simp (disch := omega) only [Option.bind_some, Option.map_some, cond_true, cond_false, wrap_i64, tmod_pos, tdiv_pos, inRange_yes, inUpto_yes, isZero_no, decide_eq_true, decide_eq_false, Bool.not_true, Bool.not_false, Int.toNat_natCast, Nat.mul_one, beqI_yes, beqI_no, bneI_yes, bneI_no, isNil_nil, isNil_iface, wr_wr, Option.isNone_none, Option.isNone_some, plus, Nat.zero_add, Nat.add_zero, q0, e1, q2, f1]
    refine patinalaw05_Two_stands_l6_rule k _ _ (fun d6 x0 x3 M => (some ⟨T, 0, none⟩ : Option Addr) = x0 ∧ ∃ (j : Nat) (σ' : ChipS), x3 = j ∧ j + d6 = 96 ∧ TI m0 M T c d r s ro' gr gs σ' σ' τ υ X1 ∧ Wf (n + j) σ' ∧ σ'.off = false) ?_ k 96 _ _ _ (by omega)
      ⟨rfl, 0, _, rfl, rfl, h3, hw.power, rfl⟩
    rintro d6 nx6 _ _ M6 ⟨rfl, j, σ', rfl, hj, h6, hw6, ho6⟩ hnx6
    unfold patinalaw05_Two_stands_l6_b
    by_cases hj2 : (j : Int) < 96
    · obtain ⟨R0, R0', n0, w0, e, σ2, m7, m8, a1, a2, a3, a4, a5, a6, a7, a8, a9⟩ := both_read k hk h6 hw6 (by omega) (j : Int)
      obtain ⟨rfl, ho2⟩ := a9 ⟨by omega, hj2⟩ ho6
      have q0 : ldPtr M6 ⟨T, 0, none⟩ = some (some ⟨c, 0, none⟩) := ldPtr_of h6.t_.1 rfl
      obtain ⟨z, s1, s2⟩ := same_is k (m := m8) (c := n0) (c' := n0) a5 a6 (by omega) (by omega)
      have hz : z = true := s2.2 ⟨rfl, fun _ _ => rfl⟩
      subst hz
      have nn : isNil (errC 0) = some true := rfl
      simp (disch := omega) only [Option.bind_some, Option.map_some, cond_true, cond_false, wrap_i64, tmod_pos, tdiv_pos, inRange_yes, inUpto_yes, isZero_no, decide_eq_true, decide_eq_false, Bool.not_true, Bool.not_false, Int.toNat_natCast, Nat.mul_one, beqI_yes, beqI_no, bneI_yes, bneI_no, isNil_nil, isNil_iface, wr_wr, Option.isNone_none, Option.isNone_some, plus, Nat.zero_add, Nat.add_zero, decide_eq_true hj2, q0, a1, a2, a3, s1, nn]
      exact hnx6 (d6 - 1) _ _ _ (by omega) ⟨rfl, j + 1, σ2, by omega, by omega, a4, by rw [← Nat.add_assoc]; exact a7, ho2⟩
    · simp (disch := omega) only [Option.bind_some, Option.map_some, cond_true, cond_false, wrap_i64, tmod_pos, tdiv_pos, inRange_yes, inUpto_yes, isZero_no, decide_eq_true, decide_eq_false, Bool.not_true, Bool.not_false, Int.toNat_natCast, Nat.mul_one, beqI_yes, beqI_no, bneI_yes, bneI_no, isNil_nil, isNil_iface, wr_wr, Option.isNone_none, Option.isNone_some, plus, Nat.zero_add, Nat.add_zero]
      exact .some ⟨rfl, ro', σ', X1, h6, hw6.mono (by omega), hX1, by omega, hlo1⟩
end
end Go.Proofs.Ytlbbcgjfkpnilaa
