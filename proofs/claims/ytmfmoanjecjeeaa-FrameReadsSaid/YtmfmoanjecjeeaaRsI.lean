/- What a codec's functions do: Decode. -/
import Derived.Test.YtmfmoanjecjeeaaRsH
set_option linter.unusedVariables false
set_option linter.unusedSectionVars false
set_option linter.unusedSimpArgs false
namespace Go.Proofs.Ytmfmoanjecjeeaa
open Go.Mx

namespace GF
theorem dec_code {w : Nat → GF} (h : Code w) : dec w = some (w, 0) := by unfold dec; rw [if_pos h]
theorem dec_yes {w c : Nat → GF} {n : Nat} (h : ¬ Code w) (hf : fix w = some (c, n)) (hc : Code c) : dec w = some (c, n) := by
  unfold dec; rw [if_neg h, hf]; simp only [if_pos hc]
theorem dec_no {w c : Nat → GF} {n : Nat} (h : ¬ Code w) (hf : fix w = some (c, n)) (hc : ¬ Code c) : dec w = none := by
  unfold dec; rw [if_neg h, hf]; simp only [if_neg hc]
theorem dec_none {w : Nat → GF} (h : ¬ Code w) (hf : fix w = none) : dec w = none := by
  unfold dec; rw [if_neg h, hf]
theorem fix_one {w : Nat → GF} (h : oneOk (syn w)) : fix w = some (flip w (63 - lg (div (syn w 1) (syn w 0))) (syn w 0), 1) := by unfold fix; rw [if_pos h]
theorem fix_two {w : Nat → GF} (h : ¬ oneOk (syn w)) {k0 k1 : Nat} {e : GF} (ht : two (syn w) = some (k0, k1, e)) : fix w = some (flip (flip w (63 - k0) e) (63 - k1) (e + syn w 0), 2) := by unfold fix; rw [if_neg h, ht]
theorem fix_none {w : Nat → GF} (h : ¬ oneOk (syn w)) (ht : two (syn w) = none) : fix w = none := by unfold fix; rw [if_neg h, ht]
end GF

section
variable (k : Nat) (hk : 1000 < k) {m : Mem} {c : Nat}
include hk

theorem decode_j1 {M : Mem} (hC : Cod M c) {d : Nat} {u : Nat → GF} (hu : M[d]? = some (.live (bys 64 u))) (hg : Gr m M) (hd : m.length ≤ d) {n : Nat} (hn : n ≠ 0) (M2 : Mem) :
    Ok (rs_Codec_Decode_j1 k (some ⟨c, 0, none⟩) (⟨some ⟨d, 0, some 1⟩, 64, 64⟩, M2) n M) fun r => Gr m r.2.2.2 ∧ ((GF.Code u ∧ r.1 = ⟨some ⟨d, 0, none⟩, 58, 58⟩ ∧ r.2.1 = n ∧ r.2.2.1 = .nilIface ∧ r.2.2.2[d]? = some (.live (bys 64 u))) ∨ (¬ GF.Code u ∧ r.1 = ⟨none, 0, 0⟩ ∧ r.2.1 = 0 ∧ r.2.2.1 = errC 5)) := by
  unfold rs_Codec_Decode_j1
  have h0 : ((n : Int) == 0) = false := beqI_no (by omega)
  simp (disch := omega) only [Option.bind_some, Option.map_some, cond_true, cond_false, wrap_i64, tmod_pos, tdiv_pos, inRange_yes, inUpto_yes, isZero_no, decide_eq_true, decide_eq_false, Bool.not_true, Bool.not_false, Int.toNat_natCast, Nat.mul_one, beqI_yes, beqI_no, bneI_yes, bneI_no, isNil_nil, isNil_iface, wr_wr, Option.isNone_none, Option.isNone_some, plus, Nat.zero_add, Nat.add_zero, h0]
  refine .bind (syn_ok k hk hC (Src.of (sp := some 1) hu)) ?_
  rintro ⟨_, m1⟩ ⟨rfl, hg1⟩
  simp only at hg1 ⊢
  obtain ⟨b, e1, e2⟩ := syn_zero (GF.syn u)
  have hz : repl 6 [.int .u8 0] = bys 6 fun _ => 0 := bys_zero 6
  rw [hz]
  simp (disch := omega) only [Option.bind_some, Option.map_some, cond_true, cond_false, wrap_i64, tmod_pos, tdiv_pos, inRange_yes, inUpto_yes, isZero_no, decide_eq_true, decide_eq_false, Bool.not_true, Bool.not_false, Int.toNat_natCast, Nat.mul_one, beqI_yes, beqI_no, bneI_yes, bneI_no, isNil_nil, isNil_iface, wr_wr, Option.isNone_none, Option.isNone_some, plus, Nat.zero_add, Nat.add_zero, e1]
  cases b with
  | true =>
    have hcl : sliceK.clear (some ⟨d, 0, some 1⟩) true = some ⟨d, 0, none⟩ := rfl
    have t58 : Int.toNat 58 = 58 := rfl
    have i1 : inUpto 58 64 = true := rfl
    have i2 : inUpto 58 58 = true := rfl
    simp (disch := omega) only [Option.bind_some, Option.map_some, cond_true, cond_false, wrap_i64, tmod_pos, tdiv_pos, inRange_yes, inUpto_yes, isZero_no, decide_eq_true, decide_eq_false, Bool.not_true, Bool.not_false, Int.toNat_natCast, Nat.mul_one, beqI_yes, beqI_no, bneI_yes, bneI_no, isNil_nil, isNil_iface, wr_wr, Option.isNone_none, Option.isNone_some, plus, Nat.zero_add, Nat.add_zero, hcl, t58, i1, i2, Bool.and_self]
    exact .some ⟨hg.trans hg1, .inl ⟨e2.1 rfl, rfl, rfl, rfl, hg1.get hu⟩⟩
  | false =>
    simp (disch := omega) only [Option.bind_some, Option.map_some, cond_true, cond_false, wrap_i64, tmod_pos, tdiv_pos, inRange_yes, inUpto_yes, isZero_no, decide_eq_true, decide_eq_false, Bool.not_true, Bool.not_false, Int.toNat_natCast, Nat.mul_one, beqI_yes, beqI_no, bneI_yes, bneI_no, isNil_nil, isNil_iface, wr_wr, Option.isNone_none, Option.isNone_some, plus, Nat.zero_add, Nat.add_zero]
    exact .some ⟨hg.trans hg1, .inr ⟨fun h => (by have := e2.2 h; cases this), rfl, rfl, rfl⟩⟩

theorem decode_ok (hC : Cod m c) {a : Option Addr} {cc : Nat} {w : Nat → GF} (hw : Src m a 64 w) :
    Ok (rs_Codec_Decode k (some ⟨c, 0, none⟩) a 64 cc m) fun r => Gr m r.2.2.2 ∧ ((∃ u n d, GF.dec w = some (u, n) ∧ r.1 = ⟨some ⟨d, 0, none⟩, 58, 58⟩ ∧ r.2.1 = (n : Nat) ∧ r.2.2.1 = .nilIface ∧ m.length ≤ d ∧ r.2.2.2[d]? = some (.live (bys 64 u))) ∨
      (GF.dec w = none ∧ r.1 = ⟨none, 0, 0⟩ ∧ r.2.1 = 0 ∧ r.2.2.1 = errC 5)) := by
  unfold rs_Codec_Decode
  have h64 : (((64 : Nat) : Int) != 64) = false := rfl
  have hw' : rdSl m a 64 1 = some (bys 64 w) := hw
  have e1 := appM_first (z := 1) (y := 1) (m := m) (l := 64) (new := bys 64 w) (by omega) (by unfold most; omega) (by unfold most; omega)
  simp (disch := omega) only [Option.bind_some, Option.map_some, cond_true, cond_false, wrap_i64, tmod_pos, tdiv_pos, inRange_yes, inUpto_yes, isZero_no, decide_eq_true, decide_eq_false, Bool.not_true, Bool.not_false, Int.toNat_natCast, Nat.mul_one, beqI_yes, beqI_no, bneI_yes, bneI_no, isNil_nil, isNil_iface, wr_wr, Option.isNone_none, Option.isNone_some, plus, Nat.zero_add, Nat.add_zero, h64, hw', e1]
  have hg0 : Gr m (m ++ [.live (bys 64 w)]) := Gr.app _ _
  have hd0 := get_last (m := m) (o := .live (bys 64 w)) rfl
  refine .bind (syn_ok k hk (hC.grow hg0) (Src.of (sp := some 1) hd0)) ?_
  rintro ⟨_, m2⟩ ⟨rfl, hg2⟩
  simp only at hg2 ⊢
  generalize hm1 : m ++ [MObj.live (bys 64 w)] = m1 at *
  have hb : Nat.beq (bys 6 (GF.syn w)).length 6 = true := by rw [bys_len]; rfl
  have hl := get_last (m := m2) (o := .live (bys 6 fun _ => 0)) rfl
  have e2 := bys_stc (sp := none) (u := GF.syn w) hl (o := 0) (l := 6) (by omega)
  rw [wr_last rfl, bys_congr (n := 6) (u := fun i => if 0 ≤ i ∧ i < 0 + 6 then GF.syn w (i - 0) else 0) (w := GF.syn w) fun k hk => if_pos (by omega)] at e2
  have hl5 := get_last (m := m2) (o := .live (bys 6 (GF.syn w))) rfl
  have e3 := bys_ldc (sp := none) hl5
  obtain ⟨b, e4, e5⟩ := syn_zero (GF.syn w)
  have hz : repl 6 [.int .u8 0] = bys 6 fun _ => 0 := bys_zero 6
  rw [hz]
  simp (disch := omega) only [Option.bind_some, Option.map_some, cond_true, cond_false, wrap_i64, tmod_pos, tdiv_pos, inRange_yes, inUpto_yes, isZero_no, decide_eq_true, decide_eq_false, Bool.not_true, Bool.not_false, Int.toNat_natCast, Nat.mul_one, beqI_yes, beqI_no, bneI_yes, bneI_no, isNil_nil, isNil_iface, wr_wr, Option.isNone_none, Option.isNone_some, plus, Nat.zero_add, Nat.add_zero, hb, e2, e3, e4]
  have hg5 : Gr m2 (m2 ++ [.live (bys 6 (GF.syn w))]) := Gr.app _ _
  have hcl : sliceK.clear (some ⟨m.length, 0, some 1⟩) true = some ⟨m.length, 0, none⟩ := rfl
  have t58 : Int.toNat 58 = 58 := rfl
  have i1 : inUpto 58 64 = true := rfl
  have i2 : inUpto 58 58 = true := rfl
  cases b with
  | true =>
    simp (disch := omega) only [Option.bind_some, Option.map_some, cond_true, cond_false, wrap_i64, tmod_pos, tdiv_pos, inRange_yes, inUpto_yes, isZero_no, decide_eq_true, decide_eq_false, Bool.not_true, Bool.not_false, Int.toNat_natCast, Nat.mul_one, beqI_yes, beqI_no, bneI_yes, bneI_no, isNil_nil, isNil_iface, wr_wr, Option.isNone_none, Option.isNone_some, plus, Nat.zero_add, Nat.add_zero, hcl, t58, i1, i2, Bool.and_self]
    exact .some ⟨(hg0.trans hg2).trans hg5, .inl ⟨w, 0, m.length, GF.dec_code (e5.1 rfl), rfl, rfl, rfl, Nat.le_refl _, hg5.get (hg2.get hd0)⟩⟩
  | false =>
    have hno : ¬ GF.Code w := fun h => by have := e5.2 h; cases this
    have hG := (hg0.trans hg2).trans hg5
    simp (disch := omega) only [Option.bind_some, Option.map_some, cond_true, cond_false, wrap_i64, tmod_pos, tdiv_pos, inRange_yes, inUpto_yes, isZero_no, decide_eq_true, decide_eq_false, Bool.not_true, Bool.not_false, Int.toNat_natCast, Nat.mul_one, beqI_yes, beqI_no, bneI_yes, bneI_no, isNil_nil, isNil_iface, wr_wr, Option.isNone_none, Option.isNone_some, plus, Nat.zero_add, Nat.add_zero, e3]
    refine .bind (one_ok k hk (cc := 64) (sp := some 1) (hC.grow hG) (hg5.get (hg2.get hd0)) (GF.syn w)) ?_
    rintro ⟨_, m6⟩ (⟨ho, rfl, hg6⟩ | ⟨ho, rfl, hg6⟩)
    · simp only at hg6 ⊢
      have b1 : ((1 : Int) == 0) = false := rfl
      simp (disch := omega) only [Option.bind_some, Option.map_some, cond_true, cond_false, wrap_i64, tmod_pos, tdiv_pos, inRange_yes, inUpto_yes, isZero_no, decide_eq_true, decide_eq_false, Bool.not_true, Bool.not_false, Int.toNat_natCast, Nat.mul_one, beqI_yes, beqI_no, bneI_yes, bneI_no, isNil_nil, isNil_iface, wr_wr, Option.isNone_none, Option.isNone_some, plus, Nat.zero_add, Nat.add_zero, b1]
      have hG6 := (hG.wr (Nat.le_refl _) (bys 64 (GF.flip w (63 - GF.lg (GF.div (GF.syn w 1) (GF.syn w 0))) (GF.syn w 0)))).trans hg6
      refine (decode_j1 k hk (hC.grow hG6) (hg6.get (wr_get (hg5.get (hg2.get hd0)))) hG6 (Nat.le_refl _) (n := 1) (by omega) _).mono ?_
      rintro r ⟨p1, ⟨q1, q2, q3, q4, q5⟩ | ⟨q1, q2, q3, q4⟩⟩
      · exact ⟨p1, .inl ⟨_, 1, _, GF.dec_yes hno (GF.fix_one ho) q1, q2, q3, q4, Nat.le_refl _, q5⟩⟩
      · exact ⟨p1, .inr ⟨GF.dec_no hno (GF.fix_one ho) q1, q2, q3, q4⟩⟩
    · simp only at hg6 ⊢
      have b1 : ((0 : Int) == 0) = true := rfl
      have e6 := bys_ldc (sp := none) (hg6.get hl5)
      have hG6 := hG.trans hg6
      have hd6 := hg6.get (hg5.get (hg2.get hd0))
      simp (disch := omega) only [Option.bind_some, Option.map_some, cond_true, cond_false, wrap_i64, tmod_pos, tdiv_pos, inRange_yes, inUpto_yes, isZero_no, decide_eq_true, decide_eq_false, Bool.not_true, Bool.not_false, Int.toNat_natCast, Nat.mul_one, beqI_yes, beqI_no, bneI_yes, bneI_no, isNil_nil, isNil_iface, wr_wr, Option.isNone_none, Option.isNone_some, plus, Nat.zero_add, Nat.add_zero, b1, e6]
      refine .bind (two_ok k hk (cc := 64) (sp := some 1) (hC.grow hG6) hd6 (GF.syn w)) ?_
      rintro ⟨_, m7⟩ (⟨k0, k1, e, ht, rfl, hg7⟩ | ⟨ht, rfl, hg7⟩)
      · simp only at hg7 ⊢
        have hG7 := (hG6.wr (Nat.le_refl _) (bys 64 (GF.flip (GF.flip w (63 - k0) e) (63 - k1) (e + GF.syn w 0)))).trans hg7
        refine (decode_j1 k hk (hC.grow hG7) (hg7.get (wr_get hd6)) hG7 (Nat.le_refl _) (n := 2) (by omega) _).mono ?_
        rintro r ⟨p1, ⟨q1, q2, q3, q4, q5⟩ | ⟨q1, q2, q3, q4⟩⟩
        · exact ⟨p1, .inl ⟨_, 2, _, GF.dec_yes hno (GF.fix_two ho ht) q1, q2, q3, q4, Nat.le_refl _, q5⟩⟩
        · exact ⟨p1, .inr ⟨GF.dec_no hno (GF.fix_two ho ht) q1, q2, q3, q4⟩⟩
      · simp only at hg7 ⊢
        unfold rs_Codec_Decode_j1
        simp (disch := omega) only [Option.bind_some, Option.map_some, cond_true, cond_false, wrap_i64, tmod_pos, tdiv_pos, inRange_yes, inUpto_yes, isZero_no, decide_eq_true, decide_eq_false, Bool.not_true, Bool.not_false, Int.toNat_natCast, Nat.mul_one, beqI_yes, beqI_no, bneI_yes, bneI_no, isNil_nil, isNil_iface, wr_wr, Option.isNone_none, Option.isNone_some, plus, Nat.zero_add, Nat.add_zero, b1]
        exact .some ⟨hG6.trans hg7, .inr ⟨GF.dec_none hno (GF.fix_none ho ht), rfl, rfl, rfl⟩⟩
theorem decode_len {a : Option Addr} {n cc : Nat} (hn : n ≠ 64) : rs_Codec_Decode k (some ⟨c, 0, none⟩) a n cc m = some (⟨none, 0, 0⟩, 0, errC 1, m) := by
  unfold rs_Codec_Decode
  have h58 : (((n : Nat) : Int) != 64) = true := bneI_yes (by omega)
  simp (disch := omega) only [Option.bind_some, Option.map_some, cond_true, cond_false, wrap_i64, tmod_pos, tdiv_pos, inRange_yes, inUpto_yes, isZero_no, decide_eq_true, decide_eq_false, Bool.not_true, Bool.not_false, Int.toNat_natCast, Nat.mul_one, beqI_yes, beqI_no, bneI_yes, bneI_no, isNil_nil, isNil_iface, wr_wr, Option.isNone_none, Option.isNone_some, plus, Nat.zero_add, Nat.add_zero, h58]
  rfl
end
end Go.Proofs.Ytmfmoanjecjeeaa
