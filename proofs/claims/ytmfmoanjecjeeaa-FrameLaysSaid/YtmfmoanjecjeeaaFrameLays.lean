/- FrameLays: Lay of any bytes; what came out stays its owner's. For every two lists of bytes. -/
import Derived.Test.YtmfmoanjecjeeaaFr4
import Derived.Test.YtmfmoanjecjeeaaFr6
import Derived.Test.YtmfmoanjecjeeaaFLFrameLays
set_option linter.unusedVariables false
set_option linter.unusedSectionVars false
set_option linter.unusedSimpArgs false
namespace Go.Proofs.Ytmfmoanjecjeeaa
open Go.Mx

theorem Lent.keep {m m' : Mem} {x d e n : Nat} {u : Nat → GF} (h : Lent m x d e n u) (hk : ∀ p, p = x ∨ p = d ∨ p = e → m'[p]? = m[p]?) : Lent m' x d e n u :=
  ⟨h.xd, h.xe, h.de, by rw [hk x (.inl rfl)]; exact h.x_, by rw [hk d (.inr (.inl rfl))]; exact h.d_, by rw [hk e (.inr (.inr rfl))]; exact h.e_⟩

theorem frameLays_run (o0 o1 : MObj) (a0 : Option Addr) (n0 c0 : Nat) (cs0 : List Value) (a1 : Option Addr) (n1 c1 : Nat) (cs1 : List Value) (hh0 : Holds o0 0 a0 n0 [.int .u8] cs0) (hc0 : n0 ≤ c0) (y0 : n0 * 1 ≤ 140737488351232) (hh1 : Holds o1 1 a1 n1 [.int .u8] cs1) (hc1 : n1 ≤ c1) (y1 : n1 * 1 ≤ 140737488351232) :
    ∃ k m', patinalaw06_FrameLays k a0 n0 c0 a1 n1 c1 [o0, o1] = some (true, m') := by
  obtain ⟨w0, hw0⟩ := holds_src (m := [o0, o1]) hh0 rfl
  obtain ⟨w1, hw1⟩ := holds_src (m := [o0, o1]) hh1 rfl
  obtain ⟨k, hk, hk0, hk1⟩ : ∃ k, 1000 < k ∧ n0 + 5 < k ∧ n1 + 5 < k := ⟨n0 + n1 + 1006, by omega, by omega, by omega⟩
  refine ⟨k, ?_⟩
  have key : Ok (patinalaw06_FrameLays k a0 n0 c0 a1 n1 c1 [o0, o1]) fun r => r.1 = true := by
    unfold patinalaw06_FrameLays
    refine .bind (shown6_ok k hk _) ?_
    rintro ⟨_, m1⟩ ⟨rfl, hg1⟩
    refine .bind (frameNew_ok k hk m1) ?_
    rintro ⟨_, m2⟩ ⟨c, rfl, hg2, _, hC⟩
    simp only at hg1 hg2 hC ⊢
    have hG := hg1.trans hg2
    have hlen0 : ([o0, o1] : Mem).length = 2 := rfl
    have hl2 := hG.len
    rw [hlen0] at hl2
    simp (disch := omega) only [Option.bind_some, Option.map_some, cond_true, cond_false, wrap_i64, tmod_pos, tdiv_pos, inRange_yes, inUpto_yes, isZero_no, decide_eq_true, decide_eq_false, Bool.not_true, Bool.not_false, Int.toNat_natCast, Nat.mul_one, beqI_yes, beqI_no, bneI_yes, bneI_no, isNil_nil, isNil_iface, wr_wr, Option.isNone_none, Option.isNone_some, plus, Nat.zero_add, Nat.add_zero]
    refine .bind (lend_ok k hk (c := c0) (hw0.grow hG) (by omega)) ?_
    rintro ⟨_, m3⟩ ⟨x, d, e, u, rfl, hg3, hx3, hd3, he3, hL, hu⟩
    simp only at hg3 hL ⊢
    refine .bind (lend_ok k hk (c := c1) (hw1.grow (hG.trans hg3)) (by omega)) ?_
    rintro ⟨_, m4⟩ ⟨x', d', e', u', rfl, hg4, hx4, hd4, he4, hL', hu'⟩
    simp only at hg4 hL' ⊢
    have hL4 := hL.grow hg4
    have b1 := bytes_is k hL4
    have b2 := bytes_is k hL'
    have xl := get_lt hL.x_
    have dl := get_lt hL.d_
    have el := get_lt hL.e_
    have G4 := (hG.trans hg3).trans hg4
    have C4 := hC.grow (hg3.trans hg4)
    simp (disch := omega) only [Option.bind_some, Option.map_some, cond_true, cond_false, wrap_i64, tmod_pos, tdiv_pos, inRange_yes, inUpto_yes, isZero_no, decide_eq_true, decide_eq_false, Bool.not_true, Bool.not_false, Int.toNat_natCast, Nat.mul_one, beqI_yes, beqI_no, bneI_yes, bneI_no, isNil_nil, isNil_iface, wr_wr, Option.isNone_none, Option.isNone_some, plus, Nat.zero_add, Nat.add_zero, b1, b2]
    -- what is behind the call
    have turns : ∀ (m7 : Mem), Gr m4 m7 → Ok (patinaref01_Lent_Turn k (some ⟨x, 0, none⟩) m7) fun m8 => Ok (patinaref01_Lent_Turn k (some ⟨x', 0, none⟩) m8) fun m9 => Gr [o0, o1] m9 ∧ (∃ v, Lent m9 x d e n0 v) ∧ (∃ v, Lent m9 x' d' e' n1 v) ∧ ∀ p, p ≠ d → p ≠ e → p ≠ d' → p ≠ e' → m9[p]? = m7[p]? := by
      intro m7 hg7
      refine (turn_ok k (hL4.grow hg7) hk0 (by omega)).mono ?_
      rintro m8 ⟨⟨v, hv⟩, hf8, hl8, hG8⟩
      have hL8 : Lent m8 x' d' e' n1 u' := (hL'.grow hg7).keep fun p hp => hf8 p (by omega) (by omega)
      have hG8' := hG8 [o0, o1] (G4.trans hg7) (by rw [hlen0]; omega) (by rw [hlen0]; omega)
      refine (turn_ok k hL8 hk1 (by omega)).mono ?_
      rintro m9 ⟨⟨v', hv'⟩, hf9, hl9, hG9⟩
      exact ⟨hG9 [o0, o1] hG8' (by rw [hlen0]; omega) (by rw [hlen0]; omega), ⟨v, hv.keep fun p hp => hf9 p (by omega) (by omega)⟩, ⟨v', hv'⟩, fun p h1 h2 h3 h4 => by rw [hf9 p h3 h4, hf8 p h1 h2]⟩
    by_cases hn : n0 = 174 ∧ n1 = 50
    · obtain ⟨rfl, rfl⟩ := hn
      refine .bind (lay_ok k hk (ca := 174 + 5) (cb := 50 + 5) C4 (Src.take (sp := some 1) hL4.d_ (l := 174) (by omega)) (Src.take (sp := some 1) hL'.d_ (l := 50) (by omega))) ?_
      rintro ⟨_, _, m7⟩ ⟨q, D, rfl, rfl, hg7, hq0, hq, hD⟩
      simp only at hg7 hq hD ⊢
      have k1 := kept_is k (hL4.grow hg7) hk0 (by omega)
      have k2 := kept_is k (hL'.grow hg7) hk1 (by omega)
      simp (disch := omega) only [Option.bind_some, Option.map_some, cond_true, cond_false, wrap_i64, tmod_pos, tdiv_pos, inRange_yes, inUpto_yes, isZero_no, decide_eq_true, decide_eq_false, Bool.not_true, Bool.not_false, Int.toNat_natCast, Nat.mul_one, beqI_yes, beqI_no, bneI_yes, bneI_no, isNil_nil, isNil_iface, wr_wr, Option.isNone_none, Option.isNone_some, plus, Nat.zero_add, Nat.add_zero, k1, k2]
      refine .bind (turns m7 hg7) ?_
      intro m8 h8
      refine .bind h8 ?_
      rintro m9 ⟨G9, ⟨v, hv⟩, ⟨v', hv'⟩, hf9⟩
      have ha0 := hh0.2.2 (by omega)
      obtain ⟨rfl, _⟩ := ha0
      refine .bind (refLay_ok k hk (ca := c0) (cb := c1) (hw0.grow G9) (.inl rfl) hc0 (hw1.grow G9)) ?_
      rintro ⟨_, _, m12⟩ ⟨q2, D2, rfl, rfl, hg12, hq2, hD2⟩
      simp only at hg12 hq2 hD2 ⊢
      have n4 : (((4 : Nat) : Int) != 4) = false := rfl
      have hm4 : m4.length ≤ m7.length := hg7.len
      have d4l := get_lt hL4.d_
      have e4l := get_lt hL4.e_
      have d4l' := get_lt hL'.d_
      have e4l' := get_lt hL'.e_
      have x4l := get_lt hL4.x_
      have x4l' := get_lt hL'.x_
      have hq12 : m12[q]? = some (.live (sls 4 D (fun _ => 64) none)) := hg12.get (by rw [hf9 q (by omega) (by omega) (by omega) (by omega)]; exact hq)
      have hD12 : ∀ i, i < 4 → m12[D i]? = some (.live (bys 64 (GF.cw gC (msgs u u' i)))) := fun i hi => by
        obtain ⟨z1, _, z3, _⟩ := hD i hi
        exact hg12.get (by rw [hf9 _ (by omega) (by omega) (by omega) (by omega)]; exact z3)
      simp (disch := omega) only [Option.bind_some, Option.map_some, cond_true, cond_false, wrap_i64, tmod_pos, tdiv_pos, inRange_yes, inUpto_yes, isZero_no, decide_eq_true, decide_eq_false, Bool.not_true, Bool.not_false, Int.toNat_natCast, Nat.mul_one, beqI_yes, beqI_no, bneI_yes, bneI_no, isNil_nil, isNil_iface, wr_wr, Option.isNone_none, Option.isNone_some, plus, Nat.zero_add, Nat.add_zero, isNil_nil, n4]
      refine patinalaw06_FrameLays_l0_rule k _ _ (fun r x5 x7 x8 x9a x9n x9c x11 x12a x12n x12c x14 M => true = x5 ∧ (some ⟨x, 0, none⟩ : Option Addr) = x7 ∧ (some ⟨x', 0, none⟩ : Option Addr) = x8 ∧ (some ⟨q, 0, some 1⟩ : Option Addr) = x9a ∧ 4 = x9n ∧ 4 = x9c ∧ true = x11 ∧ (some ⟨q2, 0, some 1⟩ : Option Addr) = x12a ∧ 4 = x12n ∧ 4 = x12c ∧ m12 = M ∧ ∃ j : Nat, x14 = j ∧ j + r = 4) ?_ k 4 _ _ _ _ _ _ _ _ _ _ _ _ (by omega)
        ⟨rfl, rfl, rfl, rfl, rfl, rfl, rfl, rfl, rfl, rfl, rfl, 0, rfl, rfl⟩
      rintro r nx _ _ _ _ _ _ _ _ _ _ _ _ ⟨rfl, rfl, rfl, rfl, rfl, rfl, rfl, rfl, rfl, rfl, rfl, j, rfl, hr⟩ hnx
      unfold patinalaw06_FrameLays_l0_b
      by_cases hj : (j : Int) < 4
      · have i4 : inRange (j : Int) 4 = true := inRange_yes (by omega) (by omega)
        have f1 : ldSl m12 ⟨q, j, some 1⟩ = some ⟨some ⟨D j, 0, none⟩, 64, 64⟩ := ldSl_of hq12 (sls_get (by omega))
        have f2 : ldSl m12 ⟨q2, j, some 1⟩ = some ⟨some ⟨D2 j, 0, some 1⟩, 64, 64⟩ := ldSl_of hq2 (sls_get (by omega))
        obtain ⟨z, s1, s2⟩ := same_is k (c := 64) (c' := 64) (Src.of (sp := none) (hD12 j (by omega))) (Src.of (sp := some 1) (hD2 j (by omega))) (by omega) (by omega)
        have hz : z = true := s2.2 ⟨rfl, fun i _ => GF.cw_congr (fun t ht => by
          show whole u u' (j * 58 + t) = whole w0 w1 (j * 58 + t)
          unfold whole
          by_cases h : j * 58 + t < 174
          · rw [if_pos h, if_pos h]; exact hu _ h
          · rw [if_neg h, if_neg h]; exact sealed_congr hu' _) i⟩
        subst hz
        simp (disch := omega) only [Option.bind_some, Option.map_some, cond_true, cond_false, wrap_i64, tmod_pos, tdiv_pos, inRange_yes, inUpto_yes, isZero_no, decide_eq_true, decide_eq_false, Bool.not_true, Bool.not_false, Int.toNat_natCast, Nat.mul_one, beqI_yes, beqI_no, bneI_yes, bneI_no, isNil_nil, isNil_iface, wr_wr, Option.isNone_none, Option.isNone_some, plus, Nat.zero_add, Nat.add_zero, i4, f1, f2, s1]
        exact hnx (r - 1) _ _ _ _ _ _ _ _ _ _ _ _ (by omega) ⟨rfl, rfl, rfl, rfl, rfl, rfl, rfl, rfl, rfl, rfl, rfl, j + 1, by omega, by omega⟩
      · rw [decide_eq_false hj, cond_false]
        clear hnx
        refine .bind (apart_ok k hk (cc := 4) (sq := some 1) (D := D) (nn := fun _ => 64) (L := fun _ => 64) hq12 (fun j hj => ⟨_, hD12 j hj⟩) (fun j _ => by omega) (fun i j hi hj hij => (hD i hi).2.2.2 j hj hij) (fun i hi => (hD i hi).2.1) (by omega)) ?_
        rintro ⟨_, m22⟩ ⟨rfl, hl22, hf22⟩
        simp only at hl22 hf22 ⊢
        have g22 : ∀ p o, (p = x ∨ p = d ∨ p = e ∨ p = x' ∨ p = d' ∨ p = e') → m12[p]? = some o → m22[p]? = m12[p]? := fun p o hp ho =>
          hf22 p (get_lt ho) fun j hj => by have := (hD j hj).1; omega
        have hv12 := hv.grow hg12
        have hv12' := hv'.grow hg12
        have hA : Lent m22 x d e 174 v := ⟨hv12.xd, hv12.xe, hv12.de, by rw [g22 _ _ (.inl rfl) hv12.x_]; exact hv12.x_, by rw [g22 _ _ (.inr (.inl rfl)) hv12.d_]; exact hv12.d_, by rw [g22 _ _ (.inr (.inr (.inl rfl))) hv12.e_]; exact hv12.e_⟩
        have hB : Lent m22 x' d' e' 50 v' := ⟨hv12'.xd, hv12'.xe, hv12'.de, by rw [g22 _ _ (.inr (.inr (.inr (.inl rfl)))) hv12'.x_]; exact hv12'.x_, by rw [g22 _ _ (.inr (.inr (.inr (.inr (.inl rfl))))) hv12'.d_]; exact hv12'.d_, by rw [g22 _ _ (.inr (.inr (.inr (.inr (.inr rfl))))) hv12'.e_]; exact hv12'.e_⟩
        have k3 := kept_is k hA hk0 (by omega)
        have k4 := kept_is k hB hk1 (by omega)
        simp (disch := omega) only [Option.bind_some, Option.map_some, cond_true, cond_false, wrap_i64, tmod_pos, tdiv_pos, inRange_yes, inUpto_yes, isZero_no, decide_eq_true, decide_eq_false, Bool.not_true, Bool.not_false, Int.toNat_natCast, Nat.mul_one, beqI_yes, beqI_no, bneI_yes, bneI_no, isNil_nil, isNil_iface, wr_wr, Option.isNone_none, Option.isNone_some, plus, Nat.zero_add, Nat.add_zero, k3, k4]
        exact .some rfl
    · refine .bind (lay_no k (c := c) (ca := n0 + 5) (cb := n1 + 5) (n1 := n0) (n2 := n1) hn) ?_
      rintro ⟨_, _, m7⟩ ⟨rfl, rfl, hg7⟩
      simp only at hg7 ⊢
      have k1 := kept_is k (hL4.grow hg7) hk0 (by omega)
      have k2 := kept_is k (hL'.grow hg7) hk1 (by omega)
      simp (disch := omega) only [Option.bind_some, Option.map_some, cond_true, cond_false, wrap_i64, tmod_pos, tdiv_pos, inRange_yes, inUpto_yes, isZero_no, decide_eq_true, decide_eq_false, Bool.not_true, Bool.not_false, Int.toNat_natCast, Nat.mul_one, beqI_yes, beqI_no, bneI_yes, bneI_no, isNil_nil, isNil_iface, wr_wr, Option.isNone_none, Option.isNone_some, plus, Nat.zero_add, Nat.add_zero, k1, k2]
      refine .bind (turns m7 hg7) ?_
      intro m8 h8
      refine .bind h8 ?_
      rintro m9 ⟨G9, _, _, _⟩
      have r1 := refLay_no k (m := m9) (a := a0) (b := a1) (ca := c0) (cb := c1) hn
      have e10 : ifEq tt (errC 1) (.iface ty_api_Code (.int .i64 1)) = some true := by rw [ifEq_errC 1 1 (by omega)]; rfl
      have z0 : (((0 : Nat) : Int) == 0) = true := rfl
      simp (disch := omega) only [Option.bind_some, Option.map_some, cond_true, cond_false, wrap_i64, tmod_pos, tdiv_pos, inRange_yes, inUpto_yes, isZero_no, decide_eq_true, decide_eq_false, Bool.not_true, Bool.not_false, Int.toNat_natCast, Nat.mul_one, beqI_yes, beqI_no, bneI_yes, bneI_no, isNil_nil, isNil_iface, wr_wr, Option.isNone_none, Option.isNone_some, plus, Nat.zero_add, Nat.add_zero, r1, e10, z0]
      exact .some rfl
  obtain ⟨⟨r, m'⟩, h1, h2⟩ := key
  exact ⟨m', by rw [h1]; simp only at h2; rw [h2]⟩
end Go.Proofs.Ytmfmoanjecjeeaa
