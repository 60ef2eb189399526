/- The document's codeword of a message is the code's. -/
import Derived.Test.YtmfmoanjecjeeaaRsQ
import Derived.Test.YtmfmoanjecjeeaaRsG
set_option linter.unusedVariables false
set_option linter.unusedSectionVars false
set_option linter.unusedSimpArgs false
namespace Go.Proofs.Ytmfmoanjecjeeaa
open Go.Mx

theorem refTimes_is (k : Nat) {m : Mem} {a b : Option Addr} {n1 n2 c1 c2 : Nat} {p q : Nat → GF} (hp : Src m a n1 p) (hq : Src m b n2 q) (h1 : 0 < n1 ∧ n1 < 1000) (h2 : 0 < n2 ∧ n2 < 1000) (hk : 1000 < k) :
    patinaref01_Times k a n1 c1 b n2 c2 m = some (⟨some ⟨m.length, 0, none⟩, n1 + n2 - 1, n1 + n2 - 1⟩, m ++ [.live (bys (n1 + n2 - 1) (tout p q n2 n1))]) := by
  have key : Ok (patinaref01_Times k a n1 c1 b n2 c2 m) fun r => r = (⟨some ⟨m.length, 0, none⟩, n1 + n2 - 1, n1 + n2 - 1⟩, m ++ [.live (bys (n1 + n2 - 1) (tout p q n2 n1))]) := by
    unfold patinaref01_Times
    have hb : (tt 5).bytes = 1 := by kernel_rfl
    have hn : ((n1 : Int) + n2 - 1).toNat = n1 + n2 - 1 := by omega
    have hd1 : decide (0 ≤ (n1 : Int) + n2 - 1) = true := decide_eq_true (by omega)
    have hd2 : decide ((n1 : Int) + n2 - 1 ≤ (n1 : Int) + n2 - 1) = true := decide_eq_true (by omega)
    have hd3 : decide (((n1 : Int) + n2 - 1) * ((1 : Nat) : Int) ≤ ((most : Nat) : Int)) = true := decide_eq_true (by unfold most; omega)
    have hd4 : decide ((n1 : Int) + n2 - 1 ≤ ((most : Nat) : Int)) = true := decide_eq_true (by unfold most; omega)
    simp (disch := omega) only [Option.bind_some, Option.map_some, cond_true, cond_false, wrap_i64, tmod_pos, tdiv_pos, inRange_yes, inUpto_yes, isZero_no, decide_eq_true, decide_eq_false, Bool.not_true, Bool.not_false, Int.toNat_natCast, Nat.mul_one, beqI_yes, beqI_no, bneI_yes, bneI_no, isNil_nil, isNil_iface, wr_wr, Option.isNone_none, Option.isNone_some, plus, Nat.zero_add, Nat.add_zero, hb, hn, hd1, hd2, hd3, hd4, Bool.and_self, bys_zero]
    refine patinaref01_Times_l0_rule k _ (fun r x27a x27n x27c x2a x2n x2c x7a x7n x7c x29 m' => b = x2a ∧ n2 = x2n ∧ c2 = x2c ∧ (some ⟨m.length, 0, none⟩ : Option Addr) = x7a ∧ n1 + n2 - 1 = x7n ∧ n1 + n2 - 1 = x7c ∧ a = x27a ∧ n1 = x27n ∧ c1 = x27c ∧
      ∃ i : Nat, x29 = i ∧ i + r = n1 ∧ m' = m ++ [.live (bys (n1 + n2 - 1) (tout p q n2 i))]) ?_ k n1 _ _ _ _ _ _ _ _ _ _ _ (by omega) ⟨rfl, rfl, rfl, rfl, rfl, rfl, rfl, rfl, rfl, 0, rfl, by omega, rfl⟩
    rintro r nx _ _ _ _ _ _ _ _ _ _ _ ⟨rfl, rfl, rfl, rfl, rfl, rfl, rfl, rfl, rfl, i, rfl, hr, rfl⟩ hnx
    unfold patinaref01_Times_l0_b
    by_cases hi : (i : Int) < n1
    · simp (disch := omega) only [Option.bind_some, Option.map_some, cond_true, cond_false, wrap_i64, tmod_pos, tdiv_pos, inRange_yes, inUpto_yes, isZero_no, decide_eq_true, decide_eq_false, Bool.not_true, Bool.not_false, Int.toNat_natCast, Nat.mul_one, beqI_yes, beqI_no, bneI_yes, bneI_no, isNil_nil, isNil_iface, wr_wr, Option.isNone_none, Option.isNone_some, plus, Nat.zero_add, Nat.add_zero]
      refine patinaref01_Times_l2_rule k _ (fun r x27a x27n x27c x2a x2n x2c x7a x7n x7c x29 x36 m' => b = x2a ∧ n2 = x2n ∧ c2 = x2c ∧ (some ⟨m.length, 0, none⟩ : Option Addr) = x7a ∧ n1 + n2 - 1 = x7n ∧ n1 + n2 - 1 = x7c ∧ a = x27a ∧ n1 = x27n ∧ c1 = x27c ∧ (i : Int) = x29 ∧
        ∃ j : Nat, x36 = j ∧ j + r = n2 ∧ m' = m ++ [.live (bys (n1 + n2 - 1) (tin q (p i) i (tout p q n2 i) j))]) ?_ k n2 _ _ _ _ _ _ _ _ _ _ _ _ (by omega)
        ⟨rfl, rfl, rfl, rfl, rfl, rfl, rfl, rfl, rfl, rfl, 0, rfl, by omega, rfl⟩
      rintro r' nx' _ _ _ _ _ _ _ _ _ _ _ _ ⟨rfl, rfl, rfl, rfl, rfl, rfl, rfl, rfl, rfl, rfl, j, rfl, hr', rfl⟩ hnx'
      unfold patinaref01_Times_l2_b
      by_cases hj : (j : Int) < n2
      · generalize hT : tin q (p i) i (tout p q n2 i) j = o at *
        obtain ⟨ad, rfl, e1⟩ := (hp.grow (Gr.app m [.live (bys (n1 + n2 - 1) o)])).ld (i := i) (by omega)
        obtain ⟨bd, rfl, e2⟩ := (hq.grow (Gr.app m [.live (bys (n1 + n2 - 1) o)])).ld (i := j) (by omega)
        unfold plus at e1 e2
        have hl := get_last (m := m) (o := .live (bys (n1 + n2 - 1) o)) rfl
        have e3 := bys_ld (sp := none) hl (i := i + j) (by omega)
        have e4 := bys_st (sp := none) hl (i := i + j) (by omega) (o (i + j) + p i * q j)
        have hm := refMul_is k hk (p i) (q j) (m ++ [.live (bys (n1 + n2 - 1) o)])
        have hij : ((i : Int) + j).toNat = i + j := by omega
        have h3 : inRange ((i : Int) + j) (n1 + n2 - 1) = true := inRange_yes (by omega) (by omega)
        rw [wr_last rfl] at e4
        simp (disch := omega) only [Option.bind_some, Option.map_some, cond_true, cond_false, wrap_i64, tmod_pos, tdiv_pos, inRange_yes, inUpto_yes, isZero_no, decide_eq_true, decide_eq_false, Bool.not_true, Bool.not_false, Int.toNat_natCast, Nat.mul_one, beqI_yes, beqI_no, bneI_yes, bneI_no, isNil_nil, isNil_iface, wr_wr, Option.isNone_none, Option.isNone_some, plus, Nat.zero_add, Nat.add_zero, e1, e2, hij, h3, e3, hm, xor_v, e4, beq_self_eq_true]
        exact hnx' (r' - 1) _ _ _ _ _ _ _ _ _ _ _ _ (by omega) ⟨rfl, rfl, rfl, rfl, rfl, rfl, rfl, rfl, rfl, rfl, j + 1, by omega, by omega, by rw [tin, hT]⟩
      · obtain rfl : j = n2 := by omega
        simp (disch := omega) only [Option.bind_some, Option.map_some, cond_true, cond_false, wrap_i64, tmod_pos, tdiv_pos, inRange_yes, inUpto_yes, isZero_no, decide_eq_true, decide_eq_false, Bool.not_true, Bool.not_false, Int.toNat_natCast, Nat.mul_one, beqI_yes, beqI_no, bneI_yes, bneI_no, isNil_nil, isNil_iface, wr_wr, Option.isNone_none, Option.isNone_some, plus, Nat.zero_add, Nat.add_zero]
        exact hnx (r - 1) _ _ _ _ _ _ _ _ _ _ _ (by omega) ⟨rfl, rfl, rfl, rfl, rfl, rfl, rfl, rfl, rfl, i + 1, by omega, by omega, rfl⟩
    · obtain rfl : i = n1 := by omega
      simp (disch := omega) only [Option.bind_some, Option.map_some, cond_true, cond_false, wrap_i64, tmod_pos, tdiv_pos, inRange_yes, inUpto_yes, isZero_no, decide_eq_true, decide_eq_false, Bool.not_true, Bool.not_false, Int.toNat_natCast, Nat.mul_one, beqI_yes, beqI_no, bneI_yes, bneI_no, isNil_nil, isNil_iface, wr_wr, Option.isNone_none, Option.isNone_some, plus, Nat.zero_add, Nat.add_zero]
      exact .some rfl
  obtain ⟨r, h1, rfl⟩ := key
  exact h1

theorem refRule_ok (k : Nat) (hk : 1000 < k) (m : Mem) : Ok (patinaref02_rule k m) fun r => ∃ d, r.1 = ⟨some ⟨d, 0, none⟩, 7, 7⟩ ∧ Gr m r.2 ∧ m.length ≤ d ∧ r.2[d]? = some (.live (bys 7 (gens 6))) := by
  unfold patinaref02_rule
  refine patinaref02_rule_l0_rule k _ (fun r x1a x1n x1c x2 x3 m' => ∃ j d : Nat, x3 = j ∧ j + r = 6 ∧ (some ⟨d, 0, none⟩ : Option Addr) = x1a ∧ j + 1 = x1n ∧ j + 1 = x1c ∧ ((GF.pw j).v : Int) = x2 ∧ Gr m m' ∧ m.length ≤ d ∧ m'[d]? = some (.live (bys (j + 1) (gens j)))) ?_ k 6 _ _ _ _ _ _ (by omega)
    ⟨0, _, rfl, by omega, rfl, rfl, rfl, rfl, Gr.app _ _, Nat.le_refl _, get_last rfl⟩
  rintro r nx _ _ _ _ _ m' ⟨j, d, rfl, hr, rfl, rfl, rfl, rfl, hG, hd, h1⟩ hnx
  unfold patinaref02_rule_l0_b
  by_cases hj : (j : Int) < 6
  · have hlin : [Value.int .u8 1, .int .u8 ((GF.pw j).v : Int)] = bys 2 (lin j) := rfl
    have e2 := refTimes_is k (c1 := j + 1) (c2 := 2) (Src.of (sp := none) (get_grow (g := [.live (bys 2 (lin j))]) h1)) (Src.of (sp := none) (get_last (m := m') (o := .live (bys 2 (lin j))) rfl)) (by omega) (by omega) hk
    have e3 := fun M => refMul_is k hk (GF.pw j) (GF.pw 1) M
    simp only [GF.pw_pw, show ((GF.pw 1).v : Int) = 2 from rfl] at e3
    simp (disch := omega) only [Option.bind_some, Option.map_some, cond_true, cond_false, wrap_i64, tmod_pos, tdiv_pos, inRange_yes, inUpto_yes, isZero_no, decide_eq_true, decide_eq_false, Bool.not_true, Bool.not_false, Int.toNat_natCast, Nat.mul_one, beqI_yes, beqI_no, bneI_yes, bneI_no, isNil_nil, isNil_iface, wr_wr, Option.isNone_none, Option.isNone_some, plus, Nat.zero_add, Nat.add_zero, hlin, e2, e3]
    have hl := hG.len
    exact hnx (r - 1) _ _ _ _ _ _ (by omega) ⟨j + 1, _, by omega, by omega, rfl, by omega, by omega, rfl, (hG.trans (Gr.app _ _)).trans (Gr.app _ _), by simp; omega, get_last rfl⟩
  · obtain rfl : j = 6 := by omega
    simp (disch := omega) only [Option.bind_some, Option.map_some, cond_true, cond_false, wrap_i64, tmod_pos, tdiv_pos, inRange_yes, inUpto_yes, isZero_no, decide_eq_true, decide_eq_false, Bool.not_true, Bool.not_false, Int.toNat_natCast, Nat.mul_one, beqI_yes, beqI_no, bneI_yes, bneI_no, isNil_nil, isNil_iface, wr_wr, Option.isNone_none, Option.isNone_some, plus, Nat.zero_add, Nat.add_zero]
    exact .some ⟨d, rfl, hG, hd, h1⟩

/-- the rest of a message, i places of which are done -/
def drs (m : Nat → GF) (i : Nat) : Nat → GF := fun j => (if i ≤ j ∧ j < i + 6 then GF.rest gC m i (j - i) else 0) + (if j < 58 then m j else 0)
theorem gens0 : gens 6 0 = 1 := by decide +kernel
theorem refEncode_ok (k : Nat) (hk : 1000 < k) {m : Mem} {a : Option Addr} {c : Nat} {w : Nat → GF} (hw : Src m a 58 w) :
    Ok (patinaref02_Encode k a 58 c m) fun r => ∃ a', r.1 = ⟨a', 64, 64⟩ ∧ Ab m r.2 a' 64 (GF.cw gC w) := by
  unfold patinaref02_Encode
  have hw' : rdSl m a 58 1 = some (bys 58 w) := hw
  obtain ⟨m2, e1, hA2, l2, g2, f2, q2⟩ := (Ac.nil m.length m w).app (u := w) (l := 58) (Nat.le_refl _) (by omega) (by unfold most; omega)
  rw [Nat.zero_add] at e1 hA2
  have hG2 := q2 m (Gr.refl _) (Nat.le_refl _)
  have hz : ([Value.int .u8 0, .int .u8 0, .int .u8 0, .int .u8 0, .int .u8 0, .int .u8 0] : List Value) = bys 6 fun _ => 0 := rfl
  have hA3 := hA2.keep (m' := m2 ++ [.live (bys 6 fun _ => 0)]) fun p o _ hp => get_grow hp
  have e3 := bys_rd0 (sp := none) (get_last (m := m2) (o := .live (bys 6 fun _ => 0)) rfl)
  have l3 : (m2 ++ [MObj.live (bys 6 fun _ => 0)]).length = m2.length + 1 := by simp
  obtain ⟨m4, e4, hA4, l4, g4, f4, q4⟩ := hA3.app (u := fun _ => 0) (l := 6) (by omega) (by omega) (by unfold most; omega)
  have hG4 := q4 m (hG2.trans (Gr.app _ _)) (Nat.le_refl _)
  simp (disch := omega) only [Option.bind_some, Option.map_some, cond_true, cond_false, wrap_i64, tmod_pos, tdiv_pos, inRange_yes, inUpto_yes, isZero_no, decide_eq_true, decide_eq_false, Bool.not_true, Bool.not_false, Int.toNat_natCast, Nat.mul_one, beqI_yes, beqI_no, bneI_yes, bneI_no, isNil_nil, isNil_iface, wr_wr, Option.isNone_none, Option.isNone_some, plus, Nat.zero_add, Nat.add_zero, hw', e1, hz, e3, e4]
  refine .bind (refRule_ok k hk m4) ?_
  rintro ⟨_, m5⟩ ⟨gd, rfl, hG5, hgd, hg⟩
  simp only at hG5 hg ⊢
  have hx := hG5.get g4
  have hs : (bys (58 + 6) fun i => if i < 58 then (if i < 0 then w i else w (i - 0)) else (0 : GF)) = bys 64 (drs w 0) := bys_congr fun i hi => by
    unfold drs
    have : GF.rest gC w 0 (i - 0) = 0 := rfl
    rw [this, ite_self, GF.zero_add]
    by_cases h : i < 58
    · rw [if_pos h, if_pos h]; rfl
    · rw [if_neg h, if_neg h]
  rw [hs] at hx
  rw [l3] at hx ⊢
  generalize hd : m2.length + 1 = d at *
  have hdm : m.length ≤ d := by have := hG2.len; omega
  have hdg : d ≠ gd := by
    have := get_lt g4
    rw [l3] at this; omega
  have hG := hG4.trans hG5
  refine patinaref02_Encode_l0_rule k _ (fun r x0a x0n x0c x3a x3n x3c x4a x4n x4c x5 m' => a = x0a ∧ 58 = x0n ∧ c = x0c ∧ (some ⟨d, 0, some 1⟩ : Option Addr) = x3a ∧ 64 = x3n ∧ 64 = x3c ∧ (some ⟨gd, 0, none⟩ : Option Addr) = x4a ∧ 7 = x4n ∧ 7 = x4c ∧ ∃ (i : Nat) (s : Nat → GF), x5 = i ∧ i + r = 58 ∧ m' = wr m5 d (bys 64 s) ∧ ∀ j, i ≤ j → j < 64 → s j = drs w i j) ?_ k 58 _ _ _ _ _ _ _ _ _ _ _ (by omega)
    ⟨rfl, rfl, rfl, rfl, rfl, rfl, rfl, rfl, rfl, 0, drs w 0, rfl, by omega, (wr_same hx).symm, fun _ _ _ => rfl⟩
  rintro r nx _ _ _ _ _ _ _ _ _ _ _ ⟨rfl, rfl, rfl, rfl, rfl, rfl, rfl, rfl, rfl, i, s, rfl, hr, rfl, hsi⟩ hnx
  unfold patinaref02_Encode_l0_b
  have hx2 := wr_get (cs := bys 64 s) hx
  by_cases hi : (i : Int) < 58
  · have f1 := bys_ld (sp := some 1) hx2 (i := i) (by omega)
    have i64 : inRange (i : Int) 64 = true := inRange_yes (by omega) (by omega)
    simp (disch := omega) only [Option.bind_some, Option.map_some, cond_true, cond_false, wrap_i64, tmod_pos, tdiv_pos, inRange_yes, inUpto_yes, isZero_no, decide_eq_true, decide_eq_false, Bool.not_true, Bool.not_false, Int.toNat_natCast, Nat.mul_one, beqI_yes, beqI_no, bneI_yes, bneI_no, isNil_nil, isNil_iface, wr_wr, Option.isNone_none, Option.isNone_some, plus, Nat.zero_add, Nat.add_zero, i64, f1]
    have htop : s i = GF.rest gC w i 0 + w i := by
      rw [hsi i (Nat.le_refl _) (by omega)]
      unfold drs
      rw [if_pos (by omega), if_pos (by omega), Nat.sub_self]
    refine patinaref02_Encode_l2_rule k _ (fun r x0a x0n x0c x3a x3n x3c x4a x4n x4c x5 x6 x7 m' => a = x0a ∧ 58 = x0n ∧ c = x0c ∧ (some ⟨d, 0, some 1⟩ : Option Addr) = x3a ∧ 64 = x3n ∧ 64 = x3c ∧ (some ⟨gd, 0, none⟩ : Option Addr) = x4a ∧ 7 = x4n ∧ 7 = x4c ∧ (i : Int) = x5 ∧ ((s i).v : Int) = x6 ∧ ∃ (j : Nat) (s' : Nat → GF), x7 = j ∧ j + r = 7 ∧ m' = wr m5 d (bys 64 s') ∧ ∀ t, s' t = if i ≤ t ∧ t < i + j then s t + s i * gens 6 (t - i) else s t) ?_ k 7 _ _ _ _ _ _ _ _ _ _ _ _ _ (by omega)
      ⟨rfl, rfl, rfl, rfl, rfl, rfl, rfl, rfl, rfl, rfl, rfl, 0, s, rfl, by omega, rfl, fun t => by rw [if_neg (by omega)]⟩
    rintro r' nx' _ _ _ _ _ _ _ _ _ _ _ _ _ ⟨rfl, rfl, rfl, rfl, rfl, rfl, rfl, rfl, rfl, rfl, rfl, j, s', rfl, hr', rfl, hs'⟩ hnx'
    unfold patinaref02_Encode_l2_b
    have hx3 := wr_get (cs := bys 64 s') hx
    by_cases hj : (j : Int) < ((7 : Nat) : Int)
    · have hg2 : (wr m5 d (bys 64 s'))[gd]? = some (.live (bys 7 (gens 6))) := by rw [wr_ne hdg]; exact hg
      have g1 := bys_ld (sp := some 1) hx3 (i := i + j) (by omega)
      have g2 := bys_ld (sp := none) hg2 (i := j) (by omega)
      have g3 := refMul_is k hk (s i) (gens 6 j) (wr m5 d (bys 64 s'))
      have g4 := bys_st (sp := some 1) hx3 (i := i + j) (by omega) (s' (i + j) + s i * gens 6 j)
      have hij : ((i : Int) + j).toNat = i + j := by omega
      have h3 : inRange ((i : Int) + j) 64 = true := inRange_yes (by omega) (by omega)
      have h7 : inRange (j : Int) 7 = true := inRange_yes (by omega) (by omega)
      rw [wr_wr] at g4
      simp (disch := omega) only [Option.bind_some, Option.map_some, cond_true, cond_false, wrap_i64, tmod_pos, tdiv_pos, inRange_yes, inUpto_yes, isZero_no, decide_eq_true, decide_eq_false, Bool.not_true, Bool.not_false, Int.toNat_natCast, Nat.mul_one, beqI_yes, beqI_no, bneI_yes, bneI_no, isNil_nil, isNil_iface, wr_wr, Option.isNone_none, Option.isNone_some, plus, Nat.zero_add, Nat.add_zero, hij, h3, g1, h7, g2, g3, xor_v, g4, beq_self_eq_true]
      refine hnx' (r' - 1) _ _ _ _ _ _ _ _ _ _ _ _ _ (by omega) ⟨rfl, rfl, rfl, rfl, rfl, rfl, rfl, rfl, rfl, rfl, rfl, j + 1, _, by omega, by omega, rfl, fun t => ?_⟩
      unfold put
      by_cases h1 : t = i + j
      · rw [if_pos h1, if_pos (by omega), h1, hs', if_neg (by omega), show i + j - i = j by omega]
      · rw [if_neg h1, hs']
        by_cases h2 : i ≤ t ∧ t < i + j
        · rw [if_pos h2, if_pos (by omega)]
        · rw [if_neg h2, if_neg (by omega)]
    · obtain rfl : j = 7 := by omega
      simp (disch := omega) only [Option.bind_some, Option.map_some, cond_true, cond_false, wrap_i64, tmod_pos, tdiv_pos, inRange_yes, inUpto_yes, isZero_no, decide_eq_true, decide_eq_false, Bool.not_true, Bool.not_false, Int.toNat_natCast, Nat.mul_one, beqI_yes, beqI_no, bneI_yes, bneI_no, isNil_nil, isNil_iface, wr_wr, Option.isNone_none, Option.isNone_some, plus, Nat.zero_add, Nat.add_zero]
      refine hnx (r - 1) _ _ _ _ _ _ _ _ _ _ _ (by omega) ⟨rfl, rfl, rfl, rfl, rfl, rfl, rfl, rfl, rfl, i + 1, s', by omega, by omega, rfl, fun t h1 h2 => ?_⟩
      rw [hs', hsi t (by omega) h2]
      have hrest : GF.rest gC w (i + 1) = GF.lstep gC (GF.rest gC w i) (w i) := rfl
      unfold drs
      rw [hrest]
      by_cases h3 : t < i + 7
      · rw [if_pos (by omega), if_pos (show i + 1 ≤ t ∧ t < i + 1 + 6 by omega), htop]
        obtain ⟨u, rfl⟩ : ∃ u, t = i + 1 + u := ⟨t - (i + 1), by omega⟩
        rw [show i + 1 + u - i = u + 1 by omega, show i + 1 + u - (i + 1) = u by omega]
        unfold GF.lstep
        have hgc : gC u = gens 6 (u + 1) := by unfold gC; rw [Nat.add_comm]
        rw [hgc]
        by_cases h5 : u < 5
        · rw [if_pos (by omega), if_pos h5]
          simp only [GF.add_assoc, GF.add_comm, GF.add_left_comm]
        · rw [if_neg (by omega), if_neg h5, GF.zero_add, GF.zero_add, GF.add_comm]
      · rw [if_neg (show ¬ (i ≤ t ∧ t < i + 7) by omega), if_neg (show ¬ (i ≤ t ∧ t < i + 6) by omega), if_neg (show ¬ (i + 1 ≤ t ∧ t < i + 1 + 6) by omega)]
  · obtain rfl : i = 58 := by omega
    clear hnx
    have hM : Gr m (wr m5 d (bys 64 s)) := hG.wr hdm _
    have hw2 : rdSl (wr m5 d (bys 64 s)) a 58 1 = some (bys 58 w) := hw.grow hM
    generalize wr m5 d (bys 64 s) = m6 at *
    obtain ⟨m7, e5, hA7, l7, g7, f7, q7⟩ := (Ac.nil m.length m6 w).app (u := w) (l := 58) (by have := hM.len; omega) (by omega) (by unfold most; omega)
    rw [Nat.zero_add] at e5 hA7
    have hx7 : m7[d]? = some (.live (bys 64 s)) := by rw [f7 d (get_lt hx2) fun z hz => by cases hz]; exact hx2
    have e6 := bys_rd (sp := some 1) hx7 (o := 58) (l := 6) (by omega)
    obtain ⟨m8, e7, hA8, l8, g8, f8, q8⟩ := hA7.app (u := fun i => s (58 + i)) (l := 6) (by have := hM.len; omega) (by omega) (by unfold most; omega)
    have ho : sliceK.okZ (some ⟨d, 0, some 1⟩) 1 false = true := rfl
    have hcl : sliceK.clear (some ⟨d, 0, some 1⟩) false = some ⟨d, 0, some 1⟩ := rfl
    have u58 : inUpto 58 64 = true := rfl
    have t58 : Int.toNat 58 = 58 := rfl
    have t6 : 64 - 58 = 6 := rfl
    simp (disch := omega) only [Option.bind_some, Option.map_some, cond_true, cond_false, wrap_i64, tmod_pos, tdiv_pos, inRange_yes, inUpto_yes, isZero_no, decide_eq_true, decide_eq_false, Bool.not_true, Bool.not_false, Int.toNat_natCast, Nat.mul_one, beqI_yes, beqI_no, bneI_yes, bneI_no, isNil_nil, isNil_iface, wr_wr, Option.isNone_none, Option.isNone_some, plus, Nat.zero_add, Nat.add_zero, hw2, e5, ho, u58, Bool.and_self, t58, hcl, t6, e6, e7]
    have hG7 := q7 m hM (Nat.le_refl _)
    refine .some ⟨_, rfl, q8 m hG7 (Nat.le_refl _), .inr ⟨m7.length, rfl, hG7.len, ?_⟩⟩
    rw [g8]
    congr 2
    exact bys_congr fun i hi => by
      unfold GF.cw
      by_cases h : i < 58
      · rw [if_pos h, if_pos h, if_neg (by omega)]; rfl
      · rw [if_neg h, if_neg h, hsi _ (by omega) (by omega)]
        unfold drs
        rw [if_pos (by omega), if_neg (by omega), GF.add_zero, show 58 + (i - 58) - 58 = i - 58 by omega]
end Go.Proofs.Ytmfmoanjecjeeaa
