/- NandTold: what a page reads as differs from its truths as the damages tell; a bit turned twice leaves it as it was. For every list of operations and every two whole numbers. -/
import Derived.Test.YtlbbcgjfkpnilaaTold0
import Derived.Test.YtlbbcgjfkpnilaaFLNandTold
set_option linter.unusedVariables false
set_option linter.unusedSectionVars false
set_option linter.unusedSimpArgs false
namespace Go.Proofs.Ytlbbcgjfkpnilaa
open Go.Mx

theorem xor_twice (x : GF) (y : Int) (hy : 0 ≤ y ∧ y < 256) : bitI .xor .u8 (bitI .xor .u8 (x.v : Int) y) y = (x.v : Int) := by
  have e : y = ((GF.of y.toNat).v : Int) := by rw [GF.v_of (by omega)]; omega
  rw [e, xor_v, xor_v, GF.add_assoc, GF.add_self, GF.add_zero]
theorem shl_byte (x : Int) : 0 ≤ shlI .u8 1 x ∧ shlI .u8 1 x < 256 := by
  unfold shlI
  simp only [IntKind.wrap, IntKind.bits, IntKind.signed, Bool.false_and, Bool.false_eq_true, if_false]
  omega
theorem flip_at (σ : ChipS) (p b q : Int) : (σ.flip p b).at_ p q = if q = b / 512 then (σ.at_ p (b / 512)).mark (flipC (σ.at_ p (b / 512)) (b / 8 % 64) (b % 8)) else σ.at_ p q := by
  show (upd σ.b (p / 8) _ (p / 8)).ch (p % 8 * 4 + q) = _
  rw [upd_same]
  show upd (σ.b (p / 8)).ch (p % 8 * 4 + b / 512) _ (p % 8 * 4 + q) = _
  unfold upd
  by_cases h : q = b / 512
  · rw [if_pos (by omega), if_pos h]
  · rw [if_neg (by omega), if_neg h]; rfl
theorem flip_twice {n : Nat} {σ : ChipS} (hw : Wf n σ) (p b : Int) (hb : 0 ≤ b) (q i : Int) (hi : 0 ≤ i) : (((σ.flip p b).flip p b).at_ p q).now i = (σ.at_ p q).now i := by
  rw [flip_at]
  by_cases h : q = b / 512
  · rw [if_pos h, flip_at, if_pos rfl, h]
    show upd (upd (σ.at_ p (b / 512)).now (b / 8 % 64) _) (b / 8 % 64) (bitI .xor .u8 (upd (σ.at_ p (b / 512)).now (b / 8 % 64) (bitI .xor .u8 ((σ.at_ p (b / 512)).now (b / 8 % 64)) (shlI .u8 1 (b % 8))) (b / 8 % 64)) (shlI .u8 1 (b % 8))) i = _
    rw [upd_same, upd_upd]
    unfold upd
    by_cases h2 : i = b / 8 % 64
    · rw [if_pos h2, h2]
      obtain ⟨w, hw⟩ := (hw.by_ (p / 8) (p % 8 * 4 + b / 512)).1
      have := hw (b / 8 % 64) (by omega)
      have e : (σ.at_ p (b / 512)).now (b / 8 % 64) = byI w (b / 8 % 64) := this
      rw [e]
      exact xor_twice _ _ (shl_byte _)
    · rw [if_neg h2]
  · rw [if_neg h, flip_at, if_neg h]
theorem flip_off (σ : ChipS) (p b : Int) : (σ.flip p b).off = σ.off := rfl

theorem nandTold_run (m0 : Mem) (p0 : Option Addr) (n0 c0 : Nat) (at_ bit : Int) (hh : NHolds m0 p0 n0 [.flat (.int .i64), .flat (.int .i64), .flat (.int .i64), .sl [.int .u8]]) (hc : n0 ≤ c0) (y0 : n0 * 48 ≤ 140737488351232) (ha : (Lit.int .i64 at_).wf = true) (hb : (Lit.int .i64 bit).wf = true) :
    ∃ k m', patinalaw05_NandTold k p0 n0 c0 at_ bit m0 = some (true, m') := by
  have ha := wf64 ha
  have hb := wf64 hb
  obtain ⟨k, hk, hk2⟩ : ∃ k, 140737488360000 < k ∧ n0 < k := ⟨n0 + 140737488360001, by omega, by omega⟩
  refine ⟨k, ?_⟩
  have key : Ok (patinalaw05_NandTold k p0 n0 c0 at_ bit m0) fun r => r.1 = true := by
    unfold patinalaw05_NandTold
    refine .bind (shownG k (by omega) m0) ?_
    rintro ⟨_, m1⟩ ⟨rfl, h1⟩
    refine .bind (newG k (by omega) m1) ?_
    rintro ⟨_, m2⟩ ⟨c, rfl, h2, hc1, hc2⟩
    refine .bind (newG k (by omega) m2) ?_
    rintro ⟨_, m3⟩ ⟨d, rfl, h3, hd1, hd2⟩
    refine .bind (refNew_ok k (by omega) m3) ?_
    rintro ⟨_, m4⟩ ⟨rfl, lab, g, hR, h4, hl⟩
    refine .bind (refNew_ok k (by omega) m4) ?_
    rintro ⟨_, m5⟩ ⟨rfl, lab', g', hS, h5, hl'⟩
    simp only at h1 h2 hc1 hc2 h3 hd1 hd2 hR h4 hl hS h5 hl' ⊢
    obtain ⟨ro, X, hT, hX, hX0⟩ := begin_ok h1 h2 hc1 hc2 h3 hd1 hd2 h4 hR hl h5 hS hl'
    generalize hm6 : m5 ++ [MObj.live [.pointer (some ⟨c, 0, none⟩), .pointer (some ⟨d, 0, none⟩), .pointer (some ⟨m3.length, 0, none⟩), .pointer (some ⟨m4.length, 0, none⟩), .slice none 0 0, .slice none 0 0]] = m6 at *
    have q0 : ldPtr m6 ⟨m5.length, 0, none⟩ = some (some ⟨c, 0, none⟩) := ldPtr_of hT.t_.1 rfl
    simp (disch := omega) only [Option.bind_some, Option.map_some, cond_true, cond_false, wrap_i64, tmod_pos, tdiv_pos, inRange_yes, inUpto_yes, isZero_no, decide_eq_true, decide_eq_false, Bool.not_true, Bool.not_false, Int.toNat_natCast, Nat.mul_one, beqI_yes, beqI_no, bneI_yes, bneI_no, isNil_nil, isNil_iface, wr_wr, Option.isNone_none, Option.isNone_some, plus, Nat.zero_add, Nat.add_zero, q0]
    -- the script
    refine patinalaw05_NandTold_l0_rule k _ (fun r x0a x0n x0c x1 x2 x7 x8 x9 M => p0 = x0a ∧ n0 = x0n ∧ c0 = x0c ∧ at_ = x1 ∧ bit = x2 ∧ true = x7 ∧ (⟨m5.length, 0, none⟩ : Addr) = x8 ∧ ∃ (i : Nat) (ro : Nat → Option Role) (gr : RG) (σ : ChipS) (X : TX), x9 = i ∧ i + r = n0 ∧ TI m0 M m5.length c d m3.length m4.length ro gr g' σ σ fresh fresh X ∧ Wf i σ ∧ Eqs X ∧ X.N ≤ i) ?_ k n0 _ _ _ _ _ _ _ _ _ hk2
      ⟨rfl, rfl, rfl, rfl, rfl, rfl, rfl, 0, ro, g, fresh, X, rfl, by omega, hT, Wf.fresh, hX, by omega⟩
    clear hT hX hX0 q0 hm6
    rintro r nx _ _ _ _ _ _ _ _ M ⟨rfl, rfl, rfl, rfl, rfl, rfl, rfl, i, ro, gr, σ, X, rfl, hr, hT, hw, hX, hN⟩ hnx
    unfold patinalaw05_NandTold_l0_b
    by_cases hi : (i : Int) < n0
    · obtain ⟨rfl, kk, a, b, sa, sn, sc, w, hA0⟩ := opA hh (i := i) (by omega)
      have hA := hA0.grow hT.base
      have i1 : inRange (i : Int) n0 = true := inRange_yes (by omega) (by omega)
      obtain ⟨z, z1, z2, z3⟩ := pickN k kk 8 hA.kr (by omega)
      simp (disch := omega) only [Option.bind_some, Option.map_some, cond_true, cond_false, wrap_i64, tmod_pos, tdiv_pos, inRange_yes, inUpto_yes, isZero_no, decide_eq_true, decide_eq_false, Bool.not_true, Bool.not_false, Int.toNat_natCast, Nat.mul_one, beqI_yes, beqI_no, bneI_yes, bneI_no, isNil_nil, isNil_iface, wr_wr, Option.isNone_none, Option.isNone_some, plus, Nat.zero_add, Nat.add_zero, decide_eq_true hi, i1, hA.k_, z1, hA.a_, hA.b_, hA.s_]
      have step : Ok (patinalaw05_Two_step k (some ⟨m5.length, 0, none⟩) [.int .i64 z, .int .i64 a, .int .i64 b, .slice sa sn sc] M) (Did m0 m5.length c d m3.length m4.length i g' fresh fresh) := by
        have hdd : ∀ M, Gr m0 M → Src M sa sn w := fun M hg => hA0.src.grow hg
        have hz : z = 0 ∨ z = 1 ∨ z = 2 ∨ z = 3 ∨ z = 4 ∨ z = 5 ∨ z = 6 ∨ z = 7 := by omega
        have hsn := hA.sn_
        rcases hz with rfl | rfl | rfl | rfl | rfl | rfl | rfl | rfl
        · exact two_read k (by omega) hT hw (by omega) hX hN hdd hsn (by omega) hA.ar hA.br fun M => pick11 k (by omega) (by omega) M
        · exact two_write k (by omega) hT hw (by omega) hX hN hdd hsn (by omega) hA.ar hA.br fun M => pick11 k (by omega) (by omega) M
        · exact two_erase k (by omega) hT hw (by omega) hX hN hdd hsn (by omega) hA.ar hA.br fun M => pick11 k (by omega) (by omega) M
        · exact two_flip k (by omega) hT hw (by omega) hX hN hdd hsn (by omega) hA.ar hA.br fun M => pick11 k (by omega) (by omega) M
        · exact two_failp k (by omega) hT hw (by omega) hX hN hdd hsn (by omega) hA.ar hA.br fun M => pick11 k (by omega) (by omega) M
        · exact two_faile k (by omega) hT hw (by omega) hX hN hdd hsn (by omega) hA.ar hA.br fun M => pick11 k (by omega) (by omega) M
        · exact two_cut k (by omega) hT hw (by omega) hX hN hdd hsn (by omega) hA.ar hA.br fun M => pick11 k (by omega) (by omega) M
        · exact two_power k (by omega) hT hw (by omega) hX hN hdd hsn (by omega) hA.ar hA.br fun M => pick11 k (by omega) (by omega) M
      refine .bind step ?_
      rintro ⟨_, M'⟩ ⟨rfl, ro', gr', σ', X', t1, t2, t3, t4⟩
      exact hnx (r - 1) _ _ _ _ _ _ _ _ _ (by omega) ⟨rfl, rfl, rfl, rfl, rfl, rfl, rfl, i + 1, ro', gr', σ', X', by omega, by omega, t1, t2, t3, t4⟩
    · clear hnx
      obtain rfl : i = n0 := by omega
      have q0 : ldPtr M ⟨m5.length, 0, none⟩ = some (some ⟨c, 0, none⟩) := ldPtr_of hT.t_.1 rfl
      have e1 := nand_Power_is k hT.c_.1
      have cT : c ≠ m5.length := fun he => by have h1 := hT.c_.2; rw [he, hT.t_.2] at h1; cases h1
      have hc3 := wr_get (cs := chipC { σ with off := false, cut := false, budget := 0 }) hT.c_.1
      have hT3 : (wr M c (chipC { σ with off := false, cut := false, budget := 0 }))[m5.length]? = some (.live (tcell c d m3.length m4.length X)) := by rw [wr_ne cT]; exact hT.t_.1
      have hw := hw.power
      have hoff : ({ σ with off := false, cut := false, budget := 0 } : ChipS).off = false := rfl
      simp (disch := omega) only [Option.bind_some, Option.map_some, cond_true, cond_false, wrap_i64, tmod_pos, tdiv_pos, inRange_yes, inUpto_yes, isZero_no, decide_eq_true, decide_eq_false, Bool.not_true, Bool.not_false, Int.toNat_natCast, Nat.mul_one, beqI_yes, beqI_no, bneI_yes, bneI_no, isNil_nil, isNil_iface, wr_wr, Option.isNone_none, Option.isNone_some, plus, Nat.zero_add, Nat.add_zero, decide_eq_false hi, q0, e1]
      clear e1 q0 hT
      generalize ({ σ with off := false, cut := false, budget := 0 } : ChipS) = τ at *
      generalize wr M c (chipC τ) = M1 at *
      have q1 : ldPtr M1 ⟨m5.length, 0, none⟩ = some (some ⟨c, 0, none⟩) := ldPtr_of hT3 rfl
      obtain ⟨R0, n1, w0, e, τ', M2, f1, f2, f3, f4, f5, f6, f7, f8, f9, f10, f11⟩ := chipRead_all k (by omega) hc3 hw (by omega) at_
      have hT4 : M2[m5.length]? = some _ := (f4 _ (get_lt hT3) (Ne.symm cT)).trans hT3
      simp (disch := omega) only [Option.bind_some, Option.map_some, cond_true, cond_false, wrap_i64, tmod_pos, tdiv_pos, inRange_yes, inUpto_yes, isZero_no, decide_eq_true, decide_eq_false, Bool.not_true, Bool.not_false, Int.toNat_natCast, Nat.mul_one, beqI_yes, beqI_no, bneI_yes, bneI_no, isNil_nil, isNil_iface, wr_wr, Option.isNone_none, Option.isNone_some, plus, Nat.zero_add, Nat.add_zero, q1, f1]
      rcases f11 with ⟨g1, rfl, rfl, rfl, rfl⟩ | ⟨_, g2, _⟩ | ⟨g1, g2, ⟨D, rfl⟩, rfl, rfl, rfl, g3⟩
      · have e3 : isNil (errC 1) = some false := rfl
        have e4 : ifEq tt (errC 1) (.iface ty_api_Code (.int .i64 1)) = some true := by rw [ifEq_errC 1 1 (by omega)]; rfl
        by_cases h0 : at_ < 0
        · simp (disch := omega) only [Option.bind_some, Option.map_some, cond_true, cond_false, wrap_i64, tmod_pos, tdiv_pos, inRange_yes, inUpto_yes, isZero_no, decide_eq_true, decide_eq_false, Bool.not_true, Bool.not_false, Int.toNat_natCast, Nat.mul_one, beqI_yes, beqI_no, bneI_yes, bneI_no, isNil_nil, isNil_iface, wr_wr, Option.isNone_none, Option.isNone_some, plus, Nat.zero_add, Nat.add_zero, e3, e4, decide_eq_true h0]
          exact .some rfl
        · simp (disch := omega) only [Option.bind_some, Option.map_some, cond_true, cond_false, wrap_i64, tmod_pos, tdiv_pos, inRange_yes, inUpto_yes, isZero_no, decide_eq_true, decide_eq_false, Bool.not_true, Bool.not_false, Int.toNat_natCast, Nat.mul_one, beqI_yes, beqI_no, bneI_yes, bneI_no, isNil_nil, isNil_iface, wr_wr, Option.isNone_none, Option.isNone_some, plus, Nat.zero_add, Nat.add_zero, e3, e4, decide_eq_false h0]
          exact .some (by simp)
      · rw [hoff] at g2; cases g2
      · have e3 : isNil (errC 0) = some true := rfl
        simp (disch := omega) only [Option.bind_some, Option.map_some, cond_true, cond_false, wrap_i64, tmod_pos, tdiv_pos, inRange_yes, inUpto_yes, isZero_no, decide_eq_true, decide_eq_false, Bool.not_true, Bool.not_false, Int.toNat_natCast, Nat.mul_one, beqI_yes, beqI_no, bneI_yes, bneI_no, isNil_nil, isNil_iface, wr_wr, Option.isNone_none, Option.isNone_some, plus, Nat.zero_add, Nat.add_zero, e3]
        have hp5 : M2[D]? = some (.live (bys 256 w0)) := by
          obtain ⟨u, u1, u2, _⟩ := f5
          rw [u1, bys_congr u2]
        have w2 := f10
        -- chunk by chunk
        refine patinalaw05_NandTold_l2_rule k _ _ (fun r x1 x2 x7 x8 xa xn xc x13 M => at_ = x1 ∧ bit = x2 ∧ true = x7 ∧ (⟨m5.length, 0, none⟩ : Addr) = x8 ∧ rowA (some (D, false)) = xa ∧ 256 = xn ∧ 256 = xc ∧ ∃ q : Nat, x13 = q ∧ q + r = 4 ∧ Gr M2 M) ?_ k 4 _ _ _ _ _ _ _ _ _ (by omega)
          ⟨rfl, rfl, rfl, rfl, rfl, rfl, rfl, 0, rfl, rfl, Gr.refl _⟩
        rintro r nx _ _ _ _ _ _ _ _ M3 ⟨rfl, rfl, rfl, rfl, rfl, rfl, rfl, q, rfl, hr, hg3⟩ hnx
        unfold patinalaw05_NandTold_l2_b
        have hc5 := hg3.get f2
        have q5 : ldPtr M3 ⟨m5.length, 0, none⟩ = some (some ⟨c, 0, none⟩) := ldPtr_of (hg3.get hT4) rfl
        have hq : at_ / 8 = at_ / 8 := rfl
        by_cases hq4 : (q : Int) < 4
        · have hp : isAt at_ q := ⟨g1.1, g1.2, by omega, by omega⟩
          have d1 := nand_Damage_is k hc5 (by omega) at_ q
          have d2 := nand_Truth_is k hc5 at_ q
          rw [if_pos hp] at d1 d2
          have n64 : (((64 : Nat) : Int) != 64) = false := rfl
          have n256 : (((256 : Nat) : Int) != 256) = false := rfl
          have hws := hw.ws (at_ / 8) (at_ % 8 * 4 + q)
          have hat : (τ.readd at_).at_ at_ q = τ.at_ at_ q := readd_at τ at_ at_ q
          rw [hat] at d1 d2
          have hdl := cntNe_le (τ.at_ at_ q).now (τ.at_ at_ q).tru
          have ht6 := get_last (m := M3) (o := .live (arr .u8 64 (τ.at_ at_ q).tru)) rfl
          have hg6 : Gr M3 (M3 ++ [.live (arr .u8 64 (τ.at_ at_ q).tru)]) := Gr.app _ _
          have hp6 := (hg3.trans hg6).get hp5
          simp (disch := omega) only [Option.bind_some, Option.map_some, cond_true, cond_false, wrap_i64, tmod_pos, tdiv_pos, inRange_yes, inUpto_yes, isZero_no, decide_eq_true, decide_eq_false, Bool.not_true, Bool.not_false, Int.toNat_natCast, Nat.mul_one, beqI_yes, beqI_no, bneI_yes, bneI_no, isNil_nil, isNil_iface, wr_wr, Option.isNone_none, Option.isNone_some, plus, Nat.zero_add, Nat.add_zero, decide_eq_true hq4, q5, d1, d2, isNil_nil, n64, n256]
          generalize M3 ++ [MObj.live (arr .u8 64 (τ.at_ at_ q).tru)] = M4 at *
          refine patinalaw05_NandTold_l4_rule k _ (fun r x1 x2 x7 x8 xa xn xc x13 x14 x15 x17a x17n x17c x20 x21 M => at_ = x1 ∧ bit = x2 ∧ true = x7 ∧ (⟨m5.length, 0, none⟩ : Addr) = x8 ∧ rowA (some (D, false)) = xa ∧ 256 = xn ∧ 256 = xc ∧ (q : Int) = x13 ∧ (τ.at_ at_ q).damage = x14 ∧ (τ.at_ at_ q).worst = x15 ∧ (some ⟨M3.length, 0, some 1⟩ : Option Addr) = x17a ∧ 64 = x17n ∧ 64 = x17c ∧ M4 = M ∧ ∃ j : Nat, x21 = j ∧ j + r = 64 ∧ cntNe (τ.at_ at_ q).now (τ.at_ at_ q).tru j = x20) ?_ k 64 _ _ _ _ _ _ _ _ _ _ _ _ _ _ _ _ (by omega)
            ⟨rfl, rfl, rfl, rfl, rfl, rfl, rfl, rfl, rfl, rfl, rfl, rfl, rfl, rfl, 0, rfl, rfl, rfl⟩
          rintro r' nx' _ _ _ _ _ _ _ _ _ _ _ _ _ _ _ _ ⟨rfl, rfl, rfl, rfl, rfl, rfl, rfl, rfl, rfl, rfl, rfl, rfl, rfl, rfl, j, rfl, hr', rfl⟩ hnx'
          unfold patinalaw05_NandTold_l4_b
          by_cases hj : (j : Int) < 64
          · have hb1 := bys_ld (sp := none) hp6 (i := q * 64 + j) (by omega)
            have hb2 := arr_ldn (sp := some 1) ht6 (i := j) (by omega)
            rw [← g3 q j (by omega) (by omega)] at hb1
            have hA1 : rowA (some (D, false)) = some ⟨D, 0, none⟩ := rfl
            have hi5 : (64 * (q : Int) + (j : Int)) = ((q * 64 + j : Nat) : Int) := by omega
            have i3 : inRange (((q * 64 + j : Nat) : Int)) 256 = true := inRange_yes (by omega) (by omega)
            have i4 : inRange (j : Int) 64 = true := inRange_yes (by omega) (by omega)
            have hc := hdl j
            have w64 : IntKind.wrap .i64 (64 * (q : Int)) = 64 * (q : Int) := wrap_i64 (by omega) (by omega)
            have w65 : IntKind.wrap .i64 (64 * (q : Int) + (j : Int)) = ((q * 64 + j : Nat) : Int) := by rw [hi5, wrap_i64 (by omega) (by omega)]
            have nx2 := hnx' (r' - 1) at_ bit true ⟨m5.length, 0, none⟩ (rowA (some (D, false))) 256 256 q (τ.at_ at_ q).damage (τ.at_ at_ q).worst (some ⟨M3.length, 0, some 1⟩) 64 64 (cntNe (τ.at_ at_ q).now (τ.at_ at_ q).tru (j + 1)) ((j : Int) + 1) M4 (by omega) ⟨rfl, rfl, rfl, rfl, rfl, rfl, rfl, rfl, rfl, rfl, rfl, rfl, rfl, rfl, j + 1, by omega, by omega, rfl⟩
            rw [cntNe_succ] at nx2
            by_cases he : (τ.at_ at_ q).now j = (τ.at_ at_ q).tru j
            · have hbb : ((τ.at_ at_ q).now j != (τ.at_ at_ q).tru j) = false := bneI_no he
              rw [if_neg (fun h => h he), Int.add_zero] at nx2
              simp (disch := omega) only [Option.bind_some, Option.map_some, cond_true, cond_false, wrap_i64, tmod_pos, tdiv_pos, inRange_yes, inUpto_yes, isZero_no, decide_eq_true, decide_eq_false, Bool.not_true, Bool.not_false, Int.toNat_natCast, Nat.mul_one, beqI_yes, beqI_no, bneI_yes, bneI_no, isNil_nil, isNil_iface, wr_wr, Option.isNone_none, Option.isNone_some, plus, Nat.zero_add, Nat.add_zero, decide_eq_true hj, w64, w65, i3, hA1, hb1, i4, hb2, hbb, patinalaw05_NandTold_j1]
              exact nx2
            · have hbb : ((τ.at_ at_ q).now j != (τ.at_ at_ q).tru j) = true := bneI_yes he
              rw [if_pos he] at nx2
              simp (disch := omega) only [Option.bind_some, Option.map_some, cond_true, cond_false, wrap_i64, tmod_pos, tdiv_pos, inRange_yes, inUpto_yes, isZero_no, decide_eq_true, decide_eq_false, Bool.not_true, Bool.not_false, Int.toNat_natCast, Nat.mul_one, beqI_yes, beqI_no, bneI_yes, bneI_no, isNil_nil, isNil_iface, wr_wr, Option.isNone_none, Option.isNone_some, plus, Nat.zero_add, Nat.add_zero, decide_eq_true hj, w64, w65, i3, hA1, hb1, i4, hb2, hbb, patinalaw05_NandTold_j1]
              exact nx2
          · obtain rfl : j = 64 := by omega
            clear hnx'
            have hdd : cntNe (τ.at_ at_ q).now (τ.at_ at_ q).tru 64 = (τ.at_ at_ q).damage := rfl
            have b1 : ((τ.at_ at_ q).damage != (τ.at_ at_ q).damage) = false := bneI_no rfl
            have hws1 : (τ.at_ at_ q).damage ≤ (τ.at_ at_ q).worst := hws.1
            simp (disch := omega) only [Option.bind_some, Option.map_some, cond_true, cond_false, wrap_i64, tmod_pos, tdiv_pos, inRange_yes, inUpto_yes, isZero_no, decide_eq_true, decide_eq_false, Bool.not_true, Bool.not_false, Int.toNat_natCast, Nat.mul_one, beqI_yes, beqI_no, bneI_yes, bneI_no, isNil_nil, isNil_iface, wr_wr, Option.isNone_none, Option.isNone_some, plus, Nat.zero_add, Nat.add_zero, decide_eq_false hj, hdd, b1]
            exact hnx (r - 1) _ _ _ _ _ _ _ _ _ (by omega) ⟨rfl, rfl, rfl, rfl, rfl, rfl, rfl, q + 1, by omega, by omega, hg3.trans hg6⟩
        · -- the bit is turned twice
          clear hnx
          have v1 := nand_Flip_all k (by omega) hc5 at_ bit
          have hc6 := wr_get (cs := chipC (if 0 ≤ at_ ∧ at_ < 96 ∧ 0 ≤ bit ∧ bit < 2048 then (τ.readd at_).flip at_ bit else τ.readd at_)) hc5
          have v2 := nand_Flip_all k (by omega) hc6 at_ bit
          rw [wr_wr] at v2
          generalize hρ : (if 0 ≤ at_ ∧ at_ < 96 ∧ 0 ≤ bit ∧ bit < 2048 then (if 0 ≤ at_ ∧ at_ < 96 ∧ 0 ≤ bit ∧ bit < 2048 then (τ.readd at_).flip at_ bit else τ.readd at_).flip at_ bit else (if 0 ≤ at_ ∧ at_ < 96 ∧ 0 ≤ bit ∧ bit < 2048 then (τ.readd at_).flip at_ bit else τ.readd at_)) = ρ at *
          have hc7 := wr_get (cs := chipC ρ) hc5
          have hρ1 : Wf (i + 1) ρ ∧ ρ.off = false ∧ ∀ q j : Int, 0 ≤ j → (ρ.at_ at_ q).now j = (τ.at_ at_ q).now j := by
            rw [← hρ]
            by_cases hcd : 0 ≤ at_ ∧ at_ < 96 ∧ 0 ≤ bit ∧ bit < 2048
            · simp only [if_pos hcd]
              refine ⟨(f10.flip at_ bit hcd.2.2.1).flip at_ bit hcd.2.2.1, g2, fun q j hj => ?_⟩
              rw [flip_twice f10 at_ bit hcd.2.2.1 q j hj, readd_at]
            · simp only [if_neg hcd]
              exact ⟨f10, g2, fun q j hj => by rw [readd_at]⟩
          obtain ⟨r1, r2, r3⟩ := hρ1
          have hTT : ∀ σ', ldPtr (wr M3 c (chipC σ')) ⟨m5.length, 0, none⟩ = some (some ⟨c, 0, none⟩) := fun σ' => ldPtr_of (by rw [wr_ne cT]; exact hg3.get hT4) rfl
          obtain ⟨R9, n9, w9, e9, ρ', M9, s1, s2, s3, s4, s5, s6, s7, s8, s9, s10, s11⟩ := chipRead_all k (by omega) hc7 r1 (by omega) at_
          rcases s11 with ⟨t1, _⟩ | ⟨_, t2, _⟩ | ⟨t1, t2, ⟨D9, rfl⟩, rfl, rfl, rfl, t3⟩
          · exact absurd g1 t1
          · rw [r2] at t2; cases t2
          · have hDc : D ≠ c := fun he => by
              have h7 := f6 D rfl
              have h8 := get_lt hc3
              omega
            have hp9 : M9[D]? = some (.live (bys 256 w0)) := by
              have h7 := hg3.get hp5
              have h8 := get_lt h7
              rw [s4 D (by rw [wr_len]; exact h8) hDc, wr_ne (Ne.symm hDc)]; exact h7
            obtain ⟨z, y1, y2⟩ := same_is k (m := M9) (c := 256) (c' := 256) (Src.of (sp := none) hp9) s5.src (by omega) (by omega)
            have hz : z = true := y2.2 ⟨rfl, fun i hi => by
              have a1 := g3 (i / 64) (i % 64) (by omega) (by omega)
              have a2 := t3 (i / 64) (i % 64) (by omega) (by omega)
              rw [r3 _ _ (by omega), a1, show i / 64 * 64 + i % 64 = i by omega] at a2
              exact GF.v_inj (by omega)⟩
            subst hz
            have hA1 : rowA (some (D, false)) = some ⟨D, 0, none⟩ := rfl
            rw [hA1]
            rw [decide_eq_false hq4, cond_false]
            by_cases hcd : 0 ≤ at_ ∧ at_ < 96 ∧ 0 ≤ bit ∧ bit < 2048
            · simp only [if_pos hcd] at v1 v2
              have z0 : isNil (errC 0) = some true := rfl
              simp (disch := omega) only [Option.bind_some, Option.map_some, cond_true, cond_false, wrap_i64, tmod_pos, tdiv_pos, inRange_yes, inUpto_yes, isZero_no, decide_eq_true, decide_eq_false, Bool.not_true, Bool.not_false, Int.toNat_natCast, Nat.mul_one, beqI_yes, beqI_no, bneI_yes, bneI_no, isNil_nil, isNil_iface, wr_wr, Option.isNone_none, Option.isNone_some, plus, Nat.zero_add, Nat.add_zero, q5, v1, hTT, v2, s1, y1, z0, patinalaw05_sameError, decide_eq_true (show bit ≥ 0 from hcd.2.2.1), decide_eq_true hcd.2.2.2]
              exact .some rfl
            · simp only [if_neg hcd] at v1 v2
              have z0 : isNil (errC 0) = some true := rfl
              have z1 : isNil (errC 1) = some false := rfl
              have z2 : ifEq tt (errC 1) (errC 1) = some true := by
                rw [show errC 1 = .iface ty_api_Code (.int .i64 1) from rfl, ifEq_code]; rfl
              by_cases hb0 : bit ≥ 0
              · simp (disch := omega) only [Option.bind_some, Option.map_some, cond_true, cond_false, wrap_i64, tmod_pos, tdiv_pos, inRange_yes, inUpto_yes, isZero_no, decide_eq_true, decide_eq_false, Bool.not_true, Bool.not_false, Int.toNat_natCast, Nat.mul_one, beqI_yes, beqI_no, bneI_yes, bneI_no, isNil_nil, isNil_iface, wr_wr, Option.isNone_none, Option.isNone_some, plus, Nat.zero_add, Nat.add_zero, q5, v1, hTT, v2, s1, y1, z0, z1, z2, patinalaw05_sameError, decide_eq_true hb0, decide_eq_false (show ¬ bit < 2048 by omega)]
                exact .some rfl
              · simp (disch := omega) only [Option.bind_some, Option.map_some, cond_true, cond_false, wrap_i64, tmod_pos, tdiv_pos, inRange_yes, inUpto_yes, isZero_no, decide_eq_true, decide_eq_false, Bool.not_true, Bool.not_false, Int.toNat_natCast, Nat.mul_one, beqI_yes, beqI_no, bneI_yes, bneI_no, isNil_nil, isNil_iface, wr_wr, Option.isNone_none, Option.isNone_some, plus, Nat.zero_add, Nat.add_zero, q5, v1, hTT, v2, s1, y1, z0, z1, z2, patinalaw05_sameError, decide_eq_false hb0]
                exact .some rfl
  obtain ⟨⟨r, m'⟩, h1, h2⟩ := key
  exact ⟨m', by rw [h1]; simp only at h2; rw [h2]⟩
end Go.Proofs.Ytlbbcgjfkpnilaa
