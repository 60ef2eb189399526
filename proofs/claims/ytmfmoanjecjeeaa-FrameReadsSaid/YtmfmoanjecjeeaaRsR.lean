/- The document's product, bit by bit, is the field's. -/
import Derived.Test.YtmfmoanjecjeeaaRsF
import Derived.Test.YtmfmoanjecjeeaaFpatinaref01
set_option linter.unusedVariables false
set_option linter.unusedSectionVars false
set_option linter.unusedSimpArgs false
namespace Go.Proofs.Ytmfmoanjecjeeaa
open Go.Mx

/-! ## bits of numbers below 2^16 -/
theorem xorN {a b : Nat} (ha : a < 65536) (hb : b < 65536) : bitI .xor .i64 (a : Int) (b : Int) = ((a ^^^ b : Nat) : Int) := by
  have h1 : BitVec.ofInt 64 (a : Int) = BitVec.ofNat 64 a := by rw [BitVec.ofInt_natCast]
  have h2 : BitVec.ofInt 64 (b : Int) = BitVec.ofNat 64 b := by rw [BitVec.ofInt_natCast]
  show IntKind.i64.wrap ((BitVec.ofInt 64 (a : Int) ^^^ BitVec.ofInt 64 (b : Int)).toNat : Int) = _
  rw [h1, h2, BitVec.toNat_xor, BitVec.toNat_ofNat, BitVec.toNat_ofNat, Nat.mod_eq_of_lt (by omega), Nat.mod_eq_of_lt (by omega)]
  have : a ^^^ b < 2 ^ 16 := Nat.xor_lt_two_pow (by omega) (by omega)
  exact wrap_i64 (by omega) (by omega)
theorem and1 {a : Nat} (ha : a < 65536) : bitI .and .i64 (a : Int) 1 = ((a % 2 : Nat) : Int) := by
  have h1 : BitVec.ofInt 64 (a : Int) = BitVec.ofNat 64 a := by rw [BitVec.ofInt_natCast]
  have h2 : BitVec.ofInt 64 (1 : Int) = BitVec.ofNat 64 1 := rfl
  show IntKind.i64.wrap ((BitVec.ofInt 64 (a : Int) &&& BitVec.ofInt 64 (1 : Int)).toNat : Int) = _
  rw [h1, h2, BitVec.toNat_and, BitVec.toNat_ofNat, BitVec.toNat_ofNat, Nat.mod_eq_of_lt (by omega), Nat.mod_eq_of_lt (by omega), Nat.and_one_is_mod]
  exact wrap_i64 (by omega) (by omega)
theorem shrN {a i : Nat} (hi : i < 64) : shrI .i64 (a : Int) (i : Int) = ((a / 2 ^ i : Nat) : Int) := by
  unfold shrI
  rw [Int.toNat_natCast, Nat.min_eq_left (show i ≤ IntKind.bits .i64 from by show i ≤ 64; omega), Int.fdiv_eq_ediv_of_nonneg _ (Int.pow_nonneg (by omega))]
  rw [show ((2 : Int) ^ i) = ((2 ^ i : Nat) : Int) by rw [Int.natCast_pow]; rfl]
  exact (Int.natCast_ediv _ _).symm
theorem shlN {a i : Nat} (hi : i < 64) (h : a * 2 ^ i < 65536) : shlI .i64 (a : Int) (i : Int) = ((a * 2 ^ i : Nat) : Int) := by
  unfold shlI
  rw [Int.toNat_natCast, Nat.min_eq_left (show i ≤ IntKind.bits .i64 from by show i ≤ 64; omega)]
  rw [show ((2 : Int) ^ i) = ((2 ^ i : Nat) : Int) by rw [Int.natCast_pow]; rfl, ← Int.natCast_mul]
  exact wrap_i64 (by omega) (by omega)

def bitN (x i : Nat) : Bool := x / 2 ^ i % 2 == 1
theorem bitN_test (x i : Nat) : bitN x i = x.testBit i := by
  unfold bitN
  rw [Nat.testBit_eq_decide_div_mod_eq]
  by_cases h : x / 2 ^ i % 2 = 1
  · rw [h]; rfl
  · rw [decide_eq_false h]; exact beq_eq_false_iff_ne.2 h
/-- the sum of a shifted by b's bits -/
def shs (a b : Nat) : Nat → Nat
  | 0 => 0
  | n + 1 => if bitN b n then shs a b n ^^^ (a * 2 ^ n) else shs a b n
/-- the rest, from the bit 14 down: n steps -/
def red : Nat → Nat → Nat
  | 0, s => s
  | n + 1, s => if bitN (red n s) (14 - n) then red n s ^^^ (285 * 2 ^ (14 - n - 8)) else red n s
theorem red_xor (s t : Nat) : ∀ n, red n (s ^^^ t) = red n s ^^^ red n t
  | 0 => rfl
  | n + 1 => by
    simp only [red, red_xor s t n, bitN_test, Nat.testBit_xor]
    generalize red n s = x
    generalize red n t = y
    generalize 285 * 2 ^ (14 - n - 8) = c
    cases x.testBit (14 - n) <;> cases y.testBit (14 - n) <;> simp only [Bool.xor_self, Bool.false_xor, Bool.xor_false, Bool.false_eq_true, if_true, if_false, Bool.true_xor, Bool.not_false]
    · rw [Nat.xor_assoc]
    · rw [Nat.xor_assoc, Nat.xor_assoc, Nat.xor_comm y]
    · rw [Nat.xor_assoc, ← Nat.xor_assoc c y, Nat.xor_comm c y, Nat.xor_assoc y, Nat.xor_self, Nat.xor_zero]
theorem red_zero : ∀ n, red n 0 = 0
  | 0 => rfl
  | n + 1 => by
    rw [red, red_zero n]
    have : bitN 0 (14 - n) = false := by unfold bitN; rw [Nat.zero_div]; rfl
    rw [this]; rfl
theorem shs_lt {a : Nat} (ha : a < 256) (b : Nat) : ∀ n, n ≤ 8 → shs a b n < 65536
  | 0, _ => by show 0 < _; omega
  | n + 1, h => by
    have ih := shs_lt ha b n (by omega)
    rw [shs]
    split
    · have h1 : a * 2 ^ n < 2 ^ 16 := by
        have : 2 ^ n ≤ 2 ^ 7 := Nat.pow_le_pow_right (by omega) (by omega)
        have := Nat.mul_le_mul (show a ≤ 255 by omega) this
        omega
      exact Nat.xor_lt_two_pow (n := 16) (by omega) h1
    · exact ih
theorem red_lt {s : Nat} (hs : s < 65536) : ∀ n, n ≤ 7 → red n s < 65536
  | 0, _ => hs
  | n + 1, h => by
    have ih := red_lt hs n (by omega)
    rw [red]
    split
    · have h1 : 285 * 2 ^ (14 - n - 8) < 2 ^ 16 := by
        have : 2 ^ (14 - n - 8) ≤ 2 ^ 6 := Nat.pow_le_pow_right (by omega) (by omega)
        have := Nat.mul_le_mul (show 285 ≤ 285 by omega) this
        omega
      exact Nat.xor_lt_two_pow (n := 16) (by omega) h1
    · exact ih
theorem sh_all : (List.range 256).all (fun a => (List.range 8).all fun i => red 7 (a * 2 ^ i) == (GF.xts i (GF.of a)).v) = true := by decide +kernel
theorem sh_is (a : GF) {i : Nat} (hi : i < 8) : red 7 (a.v * 2 ^ i) = (GF.xts i a).v := by
  have := List.all_eq_true.1 (List.all_eq_true.1 sh_all a.v (List.mem_range.2 a.v_lt)) i (List.mem_range.2 hi)
  rw [beq_iff_eq, GF.of_v] at this
  exact this
/-- b's bits, up to n -/
def bitsG (b : Nat) : Nat → GF
  | 0 => 0
  | n + 1 => if bitN b n then bitsG b n + GF.pw n else bitsG b n
theorem bits_all : (List.range 256).all (fun b => bitsG b 8 == GF.of b) = true := by decide +kernel
theorem bits_is (b : GF) : bitsG b.v 8 = b := by
  have := List.all_eq_true.1 bits_all b.v (List.mem_range.2 b.v_lt)
  rw [beq_iff_eq, GF.of_v] at this
  exact this
theorem v_add (a b : GF) : (a + b).v = a.v ^^^ b.v := BitVec.toNat_xor (v := 8) a b
theorem red_shs (a : GF) (b : Nat) : ∀ n, n ≤ 8 → red 7 (shs a.v b n) = (a * bitsG b n).v
  | 0, _ => by show red 7 0 = (a * 0).v; rw [red_zero, GF.mul_zero]; rfl
  | n + 1, h => by
    rw [shs, bitsG]
    split
    · rw [red_xor, red_shs a b n (by omega), sh_is a (by omega), GF.mul_add, v_add, GF.mul_comm a (GF.pw n), GF.pw_mul]
    · exact red_shs a b n (by omega)

theorem refMul_is (k : Nat) (hk : 1000 < k) (a b : GF) (m : Mem) : patinaref01_Mul k (a.v : Int) (b.v : Int) m = some (((a * b).v : Int), m) := by
  have ha := a.v_lt
  have hb := b.v_lt
  have key : Ok (patinaref01_Mul k (a.v : Int) (b.v : Int) m) fun r => r = (((a * b).v : Int), m) := by
    unfold patinaref01_Mul
    rw [wrap_i64 (by omega) (by omega)]
    refine patinaref01_Mul_l0_rule k _ (fun r x1 x5 x6 x7 m' => (b.v : Int) = x1 ∧ (a.v : Int) = x5 ∧ m = m' ∧ ∃ i : Nat, x7 = i ∧ i + r = 8 ∧ (shs a.v b.v i : Int) = x6) ?_ k 8 _ _ _ _ _ (by omega) ⟨rfl, rfl, rfl, 0, rfl, by omega, rfl⟩
    rintro r nx _ _ _ _ _ ⟨rfl, rfl, rfl, i, rfl, hr, rfl⟩ hnx
    unfold patinaref01_Mul_l0_b
    have hs := shs_lt ha b.v i (by omega)
    by_cases hi : (i : Int) < 8
    · have e1 := shrN (a := b.v) (i := i) (by omega)
      have e2 := and1 (a := b.v / 2 ^ i) (by have := Nat.div_le_self b.v (2 ^ i); omega)
      rw [← e1] at e2
      have hp : a.v * 2 ^ i < 65536 := by
        have : 2 ^ i ≤ 2 ^ 7 := Nat.pow_le_pow_right (by omega) (by omega)
        have := Nat.mul_le_mul (show a.v ≤ 255 by omega) this
        omega
      have e3 := shlN (a := a.v) (i := i) (by omega) hp
      have e4 := xorN hs hp
      rw [← e3] at e4
      have next : ∀ x : Int, x = (shs a.v b.v (i + 1) : Int) → Ok (patinaref01_Mul_j1 k (b.v : Int) (a.v : Int) i nx x m) fun r => r = (((a * b).v : Int), m) := by
        rintro x rfl
        unfold patinaref01_Mul_j1
        simp (disch := omega) only [Option.bind_some, Option.map_some, cond_true, cond_false, wrap_i64, tmod_pos, tdiv_pos, inRange_yes, inUpto_yes, isZero_no, decide_eq_true, decide_eq_false, Bool.not_true, Bool.not_false, Int.toNat_natCast, Nat.mul_one, beqI_yes, beqI_no, bneI_yes, bneI_no, isNil_nil, isNil_iface, wr_wr, Option.isNone_none, Option.isNone_some, plus, Nat.zero_add, Nat.add_zero]
        exact hnx (r - 1) _ _ _ _ _ (by omega) ⟨rfl, rfl, rfl, i + 1, by omega, by omega, rfl⟩
      rw [decide_eq_true hi, cond_true, decide_eq_false (show ¬ (i : Int) < 0 by omega), cond_false, wrap_i64 (by omega) (by omega), e2]
      cases hbit : bitN b.v i with
      | true =>
        have : (((b.v / 2 ^ i % 2 : Nat) : Int) == 1) = true := beqI_yes (by unfold bitN at hbit; have := beq_iff_eq.1 hbit; omega)
        rw [this, cond_true, cond_false]
        exact next _ (by rw [e4, shs, hbit, if_pos rfl])
      | false =>
        have : (((b.v / 2 ^ i % 2 : Nat) : Int) == 1) = false := beqI_no (by unfold bitN at hbit; have := beq_eq_false_iff_ne.1 hbit; omega)
        rw [this, cond_false]
        exact next _ (by rw [shs, hbit, if_neg (by simp)])
    · obtain rfl : i = 8 := by omega
      rw [decide_eq_false hi, cond_false]
      generalize hS : shs a.v b.v 8 = s at *
      have hfin : red 7 s = (a * b).v := by rw [← hS, red_shs a b.v 8 (by omega), bits_is]
      refine patinaref01_Mul_l2_rule k _ (fun r x6 x8 m' => m = m' ∧ ∃ n : Nat, x8 = 14 - (n : Int) ∧ n + r = 7 ∧ (red n s : Int) = x6) ?_ k 7 _ _ _ (by omega) ⟨rfl, 0, by omega, by omega, rfl⟩
      rintro r' nx' _ _ _ ⟨rfl, n, rfl, hr', rfl⟩ hnx'
      unfold patinaref01_Mul_l2_b
      have hl := red_lt (s := s) hs n (by omega)
      by_cases hn : n < 7
      · have c14 : (14 : Int) - (n : Int) = ((14 - n : Nat) : Int) := by omega
        have c6 : (14 : Int) - (n : Int) - 8 = ((14 - n - 8 : Nat) : Int) := by omega
        have e1 := shrN (a := red n s) (i := 14 - n) (by omega)
        have e2 := and1 (a := red n s / 2 ^ (14 - n)) (by have := Nat.div_le_self (red n s) (2 ^ (14 - n)); omega)
        rw [← e1] at e2
        have hp : 285 * 2 ^ (14 - n - 8) < 65536 := by
          have : 2 ^ (14 - n - 8) ≤ 2 ^ 6 := Nat.pow_le_pow_right (by omega) (by omega)
          have := Nat.mul_le_mul (show 285 ≤ 285 by omega) this
          omega
        have e3 := shlN (a := 285) (i := 14 - n - 8) (by omega) hp
        have e4 := xorN hl hp
        rw [← e3] at e4
        have next : ∀ x : Int, x = (red (n + 1) s : Int) → Ok (patinaref01_Mul_j2 k (14 - (n : Int)) nx' x m) fun r => r = (((a * b).v : Int), m) := by
          rintro x rfl
          unfold patinaref01_Mul_j2
          simp (disch := omega) only [Option.bind_some, Option.map_some, cond_true, cond_false, wrap_i64, tmod_pos, tdiv_pos, inRange_yes, inUpto_yes, isZero_no, decide_eq_true, decide_eq_false, Bool.not_true, Bool.not_false, Int.toNat_natCast, Nat.mul_one, beqI_yes, beqI_no, bneI_yes, bneI_no, isNil_nil, isNil_iface, wr_wr, Option.isNone_none, Option.isNone_some, plus, Nat.zero_add, Nat.add_zero]
          exact hnx' (r' - 1) _ _ _ (by omega) ⟨rfl, n + 1, by omega, by omega, rfl⟩
        rw [decide_eq_true (show (14 : Int) - n ≥ 8 by omega), cond_true, decide_eq_false (show ¬ (14 : Int) - n < 0 by omega), cond_false, wrap_i64 (x := (14 : Int) - n - 8) (by omega) (by omega), decide_eq_false (show ¬ (14 : Int) - n - 8 < 0 by omega), c6]
        have c285 : ((285 : Nat) : Int) = 285 := rfl
        rw [c285] at e4
        rw [e4]
        rw [show shrI .i64 (red n s : Int) (14 - (n : Int)) = shrI .i64 (red n s : Int) ((14 - n : Nat) : Int) by rw [c14], e2]
        cases hbit : bitN (red n s) (14 - n) with
        | true =>
          have : (((red n s / 2 ^ (14 - n) % 2 : Nat) : Int) == 1) = true := beqI_yes (by unfold bitN at hbit; have := beq_iff_eq.1 hbit; omega)
          rw [this, cond_true, cond_false]
          exact next _ (by rw [red, hbit, if_pos rfl])
        | false =>
          have : (((red n s / 2 ^ (14 - n) % 2 : Nat) : Int) == 1) = false := beqI_no (by unfold bitN at hbit; have := beq_eq_false_iff_ne.1 hbit; omega)
          rw [this, cond_false]
          exact next _ (by rw [red, hbit, if_neg (by simp)])
      · obtain rfl : n = 7 := by omega
        rw [decide_eq_false (show ¬ (14 : Int) - ((7 : Nat) : Int) ≥ 8 by omega), cond_false, hfin]
        exact .some (by rw [wrap_v])
  obtain ⟨r, h1, rfl⟩ := key
  exact h1
end Go.Proofs.Ytmfmoanjecjeeaa
