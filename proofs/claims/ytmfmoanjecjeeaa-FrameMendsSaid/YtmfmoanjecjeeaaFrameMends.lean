/- FrameMends: damage of each codeword by itself: at most two bytes are mended and counted; three or four spoil the data, or the tag, alone. For every list of bytes and every list of turns. -/
import Derived.Test.YtmfmoanjecjeeaaFr5
import Derived.Test.YtmfmoanjecjeeaaFLFrameMends
set_option linter.unusedVariables false
set_option linter.unusedSectionVars false
set_option linter.unusedSimpArgs false
namespace Go.Proofs.Ytmfmoanjecjeeaa
open Go.Mx

theorem dec_le {y c : Nat → GF} (hc : GF.Code c) (h : GF.df y c ≤ 2) : ∃ v, GF.dec y = some (v, GF.df y c) ∧ ∀ i, i < 64 → v i = c i := GF.dec_of hc rfl h
theorem dec_34 {y c : Nat → GF} (hc : GF.Code c) (h : 2 < GF.df y c) (h4 : GF.df y c ≤ 4) : GF.dec y = none := by
  rcases GF.dec_spec y with ⟨u, n, q1, q2, q3, q4⟩ | ⟨q1, _⟩
  · exfalso
    have htri := GF.df_tri u y c
    have hcm := GF.df_comm u y
    have hu := q2.near hc (by omega)
    have : GF.df y u = GF.df y c := GF.wt_congr fun i hi => by rw [hu i hi]
    omega
  · exact q1
theorem mxN_le {N : Nat → Nat} {n : Nat} : ∀ {i : Nat}, mxN N i ≤ n ↔ ∀ j, j < i → N j ≤ n
  | 0 => ⟨fun _ j hj => by omega, fun _ => Nat.zero_le _⟩
  | i + 1 => by
    rw [mxN]
    constructor
    · intro h j hj
      by_cases hji : j = i
      · subst hji; omega
      · exact (mxN_le (i := i)).1 (by omega) j (by omega)
    · intro h
      have h1 := (mxN_le (N := N) (n := n) (i := i)).2 fun j hj => h j (by omega)
      have h2 := h i (by omega)
      omega
theorem mxN_congr {N N' : Nat → Nat} {i : Nat} (h : ∀ j, j < i → N j = N' j) : mxN N i = mxN N' i := by
  have a := (mxN_le (N := N) (n := mxN N' i) (i := i)).2 fun j hj => by rw [h j hj]; exact (mxN_le.1 (Nat.le_refl _)) j hj
  have b := (mxN_le (N := N') (n := mxN N i) (i := i)).2 fun j hj => by rw [← h j hj]; exact (mxN_le.1 (Nat.le_refl _)) j hj
  omega

theorem frameMends_run (o0 o1 : MObj) (a0 : Option Addr) (n0 c0 : Nat) (cs0 : List Value) (a1 : Option Addr) (n1 c1 : Nat) (cs1 : List Value) (hh0 : Holds o0 0 a0 n0 [.int .u8] cs0) (hc0 : n0 ≤ c0) (y0 : n0 * 1 ≤ 140737488351232) (hh1 : Holds o1 1 a1 n1 [.int .i64, .int .u8] cs1) (hc1 : n1 ≤ c1) (y1 : n1 * 16 ≤ 140737488351232) :
    ∃ k m', patinalaw06_FrameMends k a0 n0 c0 a1 n1 c1 [o0, o1] = some (true, m') := by
  obtain ⟨w0, hw0⟩ := holds_src (m := [o0, o1]) hh0 rfl
  obtain ⟨k, hk, hk2⟩ : ∃ k, 1000 < k ∧ n1 < k := ⟨n1 + 1001, by omega, by omega⟩
  refine ⟨k, ?_⟩
  have key : Ok (patinalaw06_FrameMends k a0 n0 c0 a1 n1 c1 [o0, o1]) fun r => r.1 = true := by
    unfold patinalaw06_FrameMends
    refine .bind (shown6_ok k hk _) ?_
    rintro ⟨_, m1⟩ ⟨rfl, hg1⟩
    refine .bind (frameNew_ok k hk m1) ?_
    rintro ⟨_, m2⟩ ⟨c, rfl, hg2, _, hC⟩
    simp only at hg1 hg2 hC ⊢
    have hG := hg1.trans hg2
    have e1 := fill_is k hk (c := c0) (N := 174) (hw0.grow hG) (by omega)
    rw [show ((174 : Nat) : Int) = 174 from rfl] at e1
    generalize hX : pad n0 w0 = x at *
    obtain ⟨xb, hxb⟩ : ∃ xb : Nat → GF, xb = fun i => x (3 * i) + GF.of 53 := ⟨_, rfl⟩
    have l3 : (m2 ++ [MObj.live (bys 174 x)]).length = m2.length + 1 := by simp
    have t50 : Int.toNat 50 = 50 := rfl
    simp (disch := omega) only [Option.bind_some, Option.map_some, cond_true, cond_false, wrap_i64, tmod_pos, tdiv_pos, inRange_yes, inUpto_yes, isZero_no, decide_eq_true, decide_eq_false, Bool.not_true, Bool.not_false, Int.toNat_natCast, Nat.mul_one, beqI_yes, beqI_no, bneI_yes, bneI_no, isNil_nil, isNil_iface, wr_wr, Option.isNone_none, Option.isNone_some, plus, Nat.zero_add, Nat.add_zero, e1, bys_zero, l3, t50]
    -- the body
    refine patinalaw06_FrameMends_l0_rule k _ (fun r x1a x1n x1c x5 x6 x7a x7n x7c x8a x8n x8c x9 m' => a1 = x1a ∧ n1 = x1n ∧ c1 = x1c ∧ true = x5 ∧ (some ⟨c, 0, none⟩ : Option Addr) = x6 ∧ (some ⟨m2.length, 0, none⟩ : Option Addr) = x7a ∧ 174 = x7n ∧ 174 = x7c ∧
      (some ⟨m2.length + 1, 0, none⟩ : Option Addr) = x8a ∧ 50 = x8n ∧ 50 = x8c ∧ ∃ j : Nat, x9 = j ∧ j + r = 50 ∧ m' = (m2 ++ [.live (bys 174 x)]) ++ [.live (bys 50 fun i => if i < j then xb i else 0)]) ?_ k 50 _ _ _ _ _ _ _ _ _ _ _ _ _ (by omega)
      ⟨rfl, rfl, rfl, rfl, rfl, rfl, rfl, rfl, rfl, rfl, rfl, 0, rfl, rfl, by rw [bys_congr (u := fun i => if i < 0 then xb i else 0) (w := fun _ => 0) fun i hi => if_neg (by omega)]⟩
    rintro r nx _ _ _ _ _ _ _ _ _ _ _ _ _ ⟨rfl, rfl, rfl, rfl, rfl, rfl, rfl, rfl, rfl, rfl, rfl, j, rfl, hr, rfl⟩ hnx
    unfold patinalaw06_FrameMends_l0_b
    have hx := get_grow (g := [.live (bys 50 fun i => if i < j then xb i else 0)]) (get_last (m := m2) (o := .live (bys 174 x)) rfl)
    have hb := get_last (m := m2 ++ [MObj.live (bys 174 x)]) (o := .live (bys 50 fun i => if i < j then xb i else 0)) l3
    by_cases hj : (j : Int) < ((50 : Nat) : Int)
    · have w3 : IntKind.wrap .i64 (3 * (j : Int)) = ((3 * j : Nat) : Int) := by rw [wrap_i64 (by omega) (by omega)]; simp
      have i3 : inRange ((3 * j : Nat) : Int) 174 = true := inRange_yes (by omega) (by omega)
      have f1 := bys_ld (sp := none) hx (i := 3 * j) (by omega)
      have e53 : (53 : Int) = ((GF.of 53).v : Int) := by decide +kernel
      have f2 : bitI .xor .u8 ((x (3 * j)).v : Int) 53 = ((xb j).v : Int) := by rw [hxb, e53, xor_v]
      have f3 := bys_st (sp := none) hb (i := j) (by omega) (xb j)
      rw [wr_last l3] at f3
      simp (disch := omega) only [Option.bind_some, Option.map_some, cond_true, cond_false, wrap_i64, tmod_pos, tdiv_pos, inRange_yes, inUpto_yes, isZero_no, decide_eq_true, decide_eq_false, Bool.not_true, Bool.not_false, Int.toNat_natCast, Nat.mul_one, beqI_yes, beqI_no, bneI_yes, bneI_no, isNil_nil, isNil_iface, wr_wr, Option.isNone_none, Option.isNone_some, plus, Nat.zero_add, Nat.add_zero, w3, i3, f1, f2, f3]
      refine hnx (r - 1) _ _ _ _ _ _ _ _ _ _ _ _ _ (by omega) ⟨rfl, rfl, rfl, rfl, rfl, rfl, rfl, rfl, rfl, rfl, rfl, j + 1, by omega, by omega, ?_⟩
      have hbc : bys 50 (put (fun i => if i < j then xb i else 0) j (xb j)) = bys 50 fun i => if i < j + 1 then xb i else 0 := bys_congr fun i hi => by
        unfold put
        by_cases h1 : i = j
        · subst h1; rw [if_pos rfl, if_pos (by omega)]
        · rw [if_neg h1]; simp only
          by_cases h2 : i < j
          · rw [if_pos h2, if_pos (by omega)]
          · rw [if_neg h2, if_neg (by omega)]
      rw [hbc]
    obtain rfl : j = 50 := by omega
    clear hnx hj hr
    rw [bys_congr (u := fun i => if i < 50 then xb i else 0) (w := xb) fun i hi => if_pos hi] at hb hx ⊢
    have hGB : Gr m2 ((m2 ++ [MObj.live (bys 174 x)]) ++ [.live (bys 50 xb)]) := (Gr.app _ _).trans (Gr.app _ _)
    simp (disch := omega) only [Option.bind_some, Option.map_some, cond_true, cond_false, wrap_i64, tmod_pos, tdiv_pos, inRange_yes, inUpto_yes, isZero_no, decide_eq_true, decide_eq_false, Bool.not_true, Bool.not_false, Int.toNat_natCast, Nat.mul_one, beqI_yes, beqI_no, bneI_yes, bneI_no, isNil_nil, isNil_iface, wr_wr, Option.isNone_none, Option.isNone_some, plus, Nat.zero_add, Nat.add_zero]
    generalize (m2 ++ [MObj.live (bys 174 x)]) ++ [.live (bys 50 xb)] = mB at *
    refine .bind (lay_ok k hk (ca := 174) (cb := 50) (hC.grow hGB) (Src.of (sp := none) hx) (Src.of (sp := none) hb)) ?_
    rintro ⟨_, _, m10⟩ ⟨q, D, rfl, rfl, hg10, hq0, hq, hD⟩
    simp only at hg10 hq hD ⊢
    have n4 : (((4 : Nat) : Int) != 4) = false := rfl
    simp (disch := omega) only [Option.bind_some, Option.map_some, cond_true, cond_false, wrap_i64, tmod_pos, tdiv_pos, inRange_yes, inUpto_yes, isZero_no, decide_eq_true, decide_eq_false, Bool.not_true, Bool.not_false, Int.toNat_natCast, Nat.mul_one, beqI_yes, beqI_no, bneI_yes, bneI_no, isNil_nil, isNil_iface, wr_wr, Option.isNone_none, Option.isNone_some, plus, Nat.zero_add, Nat.add_zero, isNil_nil, n4]
    obtain ⟨C, hCd⟩ : ∃ C : Nat → Nat → GF, C = fun i => GF.cw gC (msgs x xb i) := ⟨_, rfl⟩
    have hcode : ∀ i, GF.Code (C i) := fun i => by rw [hCd]; exact GF.cw_code gC_gen _
    obtain ⟨was, hwas⟩ : ∃ was : Nat → GF, was = fun i => C (i / 64) (i % 64) := ⟨_, rfl⟩
    have hG2 := hG.trans (hGB.trans hg10)
    -- the words, one behind the other
    refine patinalaw06_FrameMends_l2_rule k _ (fun r x1a x1n x1c x5 x6 x7a x7n x7c x8a x8n x8c x10a x10n x10c x12a x12n x12c x13 M => a1 = x1a ∧ n1 = x1n ∧ c1 = x1c ∧ true = x5 ∧ (some ⟨c, 0, none⟩ : Option Addr) = x6 ∧ (some ⟨m2.length, 0, none⟩ : Option Addr) = x7a ∧ 174 = x7n ∧ 174 = x7c ∧
      (some ⟨m2.length + 1, 0, none⟩ : Option Addr) = x8a ∧ 50 = x8n ∧ 50 = x8c ∧ (some ⟨q, 0, some 1⟩ : Option Addr) = x10a ∧ 4 = x10n ∧ 4 = x10c ∧ ∃ j : Nat, j * 64 = x12n ∧ j * 64 = x12c ∧ x13 = j ∧ j + r = 4 ∧ m10.length ≤ M.length ∧ Gr m10 M ∧ Ac m10.length M x12a (j * 64) was) ?_ k 4 _ _ _ _ _ _ _ _ _ _ _ _ _ _ _ _ _ _ _ (by omega)
      ⟨rfl, rfl, rfl, rfl, rfl, rfl, rfl, rfl, rfl, rfl, rfl, rfl, rfl, rfl, 0, rfl, rfl, rfl, rfl, Nat.le_refl _, Gr.refl _, .inl ⟨rfl, rfl⟩⟩
    rintro r nx _ _ _ _ _ _ _ _ _ _ _ _ _ _ aw _ _ _ M ⟨rfl, rfl, rfl, rfl, rfl, rfl, rfl, rfl, rfl, rfl, rfl, rfl, rfl, rfl, j, rfl, rfl, rfl, hr, hlM, hgM, hA⟩ hnx
    unfold patinalaw06_FrameMends_l2_b
    by_cases hj : (j : Int) < 4
    · have f1 : ldSl M ⟨q, j, some 1⟩ = some ⟨some ⟨D j, 0, none⟩, 64, 64⟩ := ldSl_of (hgM.get hq) (sls_get (by omega))
      have f2 : rdSl M (some ⟨D j, 0, none⟩) 64 1 = some (bys 64 (C j)) := Src.of (by rw [hCd]; exact hgM.get (hD j (by omega)).2.2.1)
      obtain ⟨M', g1, g2, g3, g4, g5, g6⟩ := hA.app (u := C j) (l := 64) hlM (by omega) (by unfold most; omega)
      simp (disch := omega) only [Option.bind_some, Option.map_some, cond_true, cond_false, wrap_i64, tmod_pos, tdiv_pos, inRange_yes, inUpto_yes, isZero_no, decide_eq_true, decide_eq_false, Bool.not_true, Bool.not_false, Int.toNat_natCast, Nat.mul_one, beqI_yes, beqI_no, bneI_yes, bneI_no, isNil_nil, isNil_iface, wr_wr, Option.isNone_none, Option.isNone_some, plus, Nat.zero_add, Nat.add_zero, f1, f2, g1]
      refine hnx (r - 1) _ _ _ _ _ _ _ _ _ _ _ _ _ _ _ _ _ _ _ (by omega) ⟨rfl, rfl, rfl, rfl, rfl, rfl, rfl, rfl, rfl, rfl, rfl, rfl, rfl, rfl, j + 1, by omega, by omega, by omega, by omega, by omega, g6 m10 hgM (Nat.le_refl _), ?_⟩
      rw [show (j + 1) * 64 = j * 64 + 64 by omega]
      refine g2.congr fun i hi => ?_
      rw [hwas]
      by_cases h : i < j * 64
      · rw [if_pos h]
      · rw [if_neg h]; show C j (i - j * 64) = C (i / 64) (i % 64)
        rw [show i / 64 = j by omega, show i % 64 = i - j * 64 by omega]
    obtain rfl : j = 4 := by omega
    clear hnx hj hr
    rcases hA with ⟨_, h⟩ | ⟨dw, rfl, hd1, hd2⟩
    · omega
    have f1 : rdSl M (some ⟨dw, 0, some 1⟩) 256 1 = some (bys 256 was) := Src.of hd2
    have f2 : appM 1 1 M none 0 0 256 (bys 256 was) = some (⟨some ⟨M.length, 0, some 1⟩, 256, 256⟩, M ++ [.live (bys 256 was)]) := appM_first (by omega) (by unfold most; omega) (by unfold most; omega)
    have n256 : (((256 : Nat) : Int) != 256) = false := rfl
    have h464 : 4 * 64 = 256 := rfl
    simp (disch := omega) only [Option.bind_some, Option.map_some, cond_true, cond_false, wrap_i64, tmod_pos, tdiv_pos, inRange_yes, inUpto_yes, isZero_no, decide_eq_true, decide_eq_false, Bool.not_true, Bool.not_false, Int.toNat_natCast, Nat.mul_one, beqI_yes, beqI_no, bneI_yes, bneI_no, isNil_nil, isNil_iface, wr_wr, Option.isNone_none, Option.isNone_some, plus, Nat.zero_add, Nat.add_zero, h464, f1, f2, n256]
    have hGM := hG2.trans hgM
    have hm2 : M[1]? = some o1 := hGM.get rfl
    have hCM : Frm M c := hC.grow ((hGB.trans hg10).trans hgM)
    have hxM := (hg10.trans hgM).get hx
    have hbM := (hg10.trans hgM).get hb
    -- the turns
    refine patinalaw06_FrameMends_l4_rule k _ (fun r x1a x1n x1c x5 x6 x7a x7n x7c x8a x8n x8c x12a x12n x12c x14a x14n x14c x15 m' => a1 = x1a ∧ n1 = x1n ∧ c1 = x1c ∧ true = x5 ∧ (some ⟨c, 0, none⟩ : Option Addr) = x6 ∧ (some ⟨m2.length, 0, none⟩ : Option Addr) = x7a ∧ 174 = x7n ∧ 174 = x7c ∧
      (some ⟨m2.length + 1, 0, none⟩ : Option Addr) = x8a ∧ 50 = x8n ∧ 50 = x8c ∧ (some ⟨dw, 0, some 1⟩ : Option Addr) = x12a ∧ 256 = x12n ∧ 256 = x12c ∧ (some ⟨M.length, 0, some 1⟩ : Option Addr) = x14a ∧ 256 = x14n ∧ 256 = x14c ∧ ∃ (j : Nat) (y : Nat → GF), x15 = j ∧ j + r = n1 ∧ m' = M ++ [.live (bys 256 y)]) ?_ k n1 _ _ _ _ _ _ _ _ _ _ _ _ _ _ _ _ _ _ _ hk2
      ⟨rfl, rfl, rfl, rfl, rfl, rfl, rfl, rfl, rfl, rfl, rfl, rfl, rfl, rfl, rfl, rfl, rfl, 0, was, rfl, by omega, rfl⟩
    rintro r nx _ _ _ _ _ _ _ _ _ _ _ _ _ _ _ _ _ _ _ ⟨rfl, rfl, rfl, rfl, rfl, rfl, rfl, rfl, rfl, rfl, rfl, rfl, rfl, rfl, rfl, rfl, rfl, j, y, rfl, hr, rfl⟩ hnx
    unfold patinalaw06_FrameMends_l4_b
    have hl := get_last (m := M) (o := .live (bys 256 y)) rfl
    by_cases hj : (j : Int) < n1
    · have hp := hh1.ptr (j := j) (by omega)
      subst hp
      have r0 := hh1.ldInt (get_grow (g := [.live (bys 256 y)]) hm2) (j := j) (q := 0) (k := .i64) (by omega) rfl (off := j * 2) rfl
      have r1 := hh1.ldInt (get_grow (g := [.live (bys 256 y)]) hm2) (j := j) (q := 1) (k := .u8) (by omega) rfl (off := j * 2 + 1) rfl
      have w0 := wf64 (hh1.int (j := j) (q := 0) (k := .i64) (by omega) rfl).1
      have w1 := wf8 (hh1.int (j := j) (q := 1) (k := .u8) (by omega) rfl).1
      generalize intAt (cs1.getD (j * [Leaf.int IntKind.i64, Leaf.int IntKind.u8].length + 0) undef) = u at *
      generalize intAt (cs1.getD (j * [Leaf.int IntKind.i64, Leaf.int IntKind.u8].length + 1) undef) = v at *
      obtain ⟨p, e2, e3⟩ := pick06_is k u 256 (M ++ [.live (bys 256 y)]) w0 (by omega)
      have e4 := bys_ld (sp := some 1) hl (i := p) (by omega)
      have hv : v = ((GF.of v.toNat).v : Int) := by rw [GF.v_of (by omega)]; omega
      rw [hv] at r1
      have hin : inRange ((p : Nat) : Int) 256 = true := inRange_yes (by omega) (by omega)
      have e5 := bys_st (sp := some 1) hl (i := p) (by omega) (y p + GF.of v.toNat)
      rw [wr_last rfl] at e5
      simp (disch := omega) only [Option.bind_some, Option.map_some, cond_true, cond_false, wrap_i64, tmod_pos, tdiv_pos, inRange_yes, inUpto_yes, isZero_no, decide_eq_true, decide_eq_false, Bool.not_true, Bool.not_false, Int.toNat_natCast, Nat.mul_one, beqI_yes, beqI_no, bneI_yes, bneI_no, isNil_nil, isNil_iface, wr_wr, Option.isNone_none, Option.isNone_some, plus, Nat.zero_add, Nat.add_zero, r0, e2, hin, e4, r1, xor_v, e5]
      exact hnx (r - 1) _ _ _ _ _ _ _ _ _ _ _ _ _ _ _ _ _ _ _ (by omega) ⟨rfl, rfl, rfl, rfl, rfl, rfl, rfl, rfl, rfl, rfl, rfl, rfl, rfl, rfl, rfl, rfl, rfl, j + 1, _, by omega, by omega, rfl⟩
    obtain rfl : j = n1 := by omega
    clear hnx hj hr
    simp (disch := omega) only [Option.bind_some, Option.map_some, cond_true, cond_false, wrap_i64, tmod_pos, tdiv_pos, inRange_yes, inUpto_yes, isZero_no, decide_eq_true, decide_eq_false, Bool.not_true, Bool.not_false, Int.toNat_natCast, Nat.mul_one, beqI_yes, beqI_no, bneI_yes, bneI_no, isNil_nil, isNil_iface, wr_wr, Option.isNone_none, Option.isNone_some, plus, Nat.zero_add, Nat.add_zero]
    have hgY : Gr M (M ++ [MObj.live (bys 256 y)]) := Gr.app _ _
    have hwY := hgY.get hd2
    have hxY := hgY.get hxM
    have hbY := hgY.get hbM
    have hCY := hCM.grow hgY
    generalize hmY : M ++ [MObj.live (bys 256 y)] = mY at *
    obtain ⟨E, hE⟩ : ∃ E : Nat → Nat, E = fun j => GF.df (wd y j) (C j) := ⟨_, rfl⟩
    have hww : ∀ j, ∀ i, i < 64 → was (j * 64 + i) = C j i := fun j i hi => by
      rw [hwas]; show C ((j * 64 + i) / 64) ((j * 64 + i) % 64) = _
      rw [show (j * 64 + i) / 64 = j by omega, show (j * 64 + i) % 64 = i by omega]
    have hEa : ∀ j, j < 4 → ∀ cc cc', patinaref02_Apart k (some ⟨M.length, j * 64, some 1⟩) 64 cc (some ⟨dw, j * 64, some 1⟩) 64 cc' mY = some ((E j : Int), mY) := by
      intro j hj cc cc'
      have := apart_is k (c := cc) (c' := cc') (Src.sub (sp := some 1) hl (o := j * 64) (l := 64) (by omega)) (Src.sub (sp := some 1) hwY (o := j * 64) (l := 64) (by omega)) (by omega) (by omega) (Nat.le_refl _)
      rw [this]
      have he : GF.wt (fun i => y (j * 64 + i) + was (j * 64 + i)) 64 = E j := by
        rw [hE]; exact GF.wt_congr fun i hi => by rw [hww j i hi]; rfl
      rw [he]
    -- the most of the data's
    refine patinalaw06_FrameMends_l6_rule k _ (fun r x5 x6 x7a x7n x7c x8a x8n x8c x12a x12n x12c x14a x14n x14c x17 x18 m' => true = x5 ∧ (some ⟨c, 0, none⟩ : Option Addr) = x6 ∧ (some ⟨m2.length, 0, none⟩ : Option Addr) = x7a ∧ 174 = x7n ∧ 174 = x7c ∧
      (some ⟨m2.length + 1, 0, none⟩ : Option Addr) = x8a ∧ 50 = x8n ∧ 50 = x8c ∧ (some ⟨dw, 0, some 1⟩ : Option Addr) = x12a ∧ 256 = x12n ∧ 256 = x12c ∧ (some ⟨M.length, 0, some 1⟩ : Option Addr) = x14a ∧ 256 = x14n ∧ 256 = x14c ∧ mY = m' ∧ ∃ j : Nat, x18 = j ∧ j + r = 3 ∧ x17 = (mxN E j : Nat)) ?_ k 3 _ _ _ _ _ _ _ _ _ _ _ _ _ _ _ _ _ (by omega)
      ⟨rfl, rfl, rfl, rfl, rfl, rfl, rfl, rfl, rfl, rfl, rfl, rfl, rfl, rfl, rfl, 0, rfl, rfl, rfl⟩
    rintro r nx _ _ _ _ _ _ _ _ _ _ _ _ _ _ _ _ _ ⟨rfl, rfl, rfl, rfl, rfl, rfl, rfl, rfl, rfl, rfl, rfl, rfl, rfl, rfl, rfl, j, rfl, hr, rfl⟩ hnx
    unfold patinalaw06_FrameMends_l6_b
    have ho1 : ∀ d : Nat, sliceK.okZ (some ⟨d, 0, some 1⟩) 1 false = true := fun _ => rfl
    by_cases hj : (j : Int) < 3
    · have w1 : IntKind.wrap .i64 (64 * (j : Int)) = ((j * 64 : Nat) : Int) := by rw [wrap_i64 (by omega) (by omega)]; simp; omega
      have w2 : IntKind.wrap .i64 (((j * 64 : Nat) : Int) + 64) = ((j * 64 + 64 : Nat) : Int) := by rw [wrap_i64 (by omega) (by omega)]; simp
      have u1 : inUpto ((j * 64 + 64 : Nat) : Int) 256 = true := inUpto_yes (by omega) (by omega)
      have u2 : inUpto ((j * 64 : Nat) : Int) (j * 64 + 64) = true := inUpto_yes (by omega) (by omega)
      have s1 : j * 64 + 64 - j * 64 = 64 := by omega
      have f1 := hEa j (by omega) (256 - j * 64) (256 - j * 64)
      simp only [decide_eq_true hj, cond_true, w1, w2, ho1, u1, u2, Bool.and_self, Int.toNat_natCast, clear_f, Option.map_some, plus, Nat.zero_add, Nat.mul_one, s1, f1, Option.bind_some]
      by_cases hgt : ((E j : Nat) : Int) > ((mxN E j : Nat) : Int)
      · rw [decide_eq_true hgt, cond_true]
        unfold patinalaw06_FrameMends_j1
        simp (disch := omega) only [Option.bind_some, Option.map_some, cond_true, cond_false, wrap_i64, tmod_pos, tdiv_pos, inRange_yes, inUpto_yes, isZero_no, decide_eq_true, decide_eq_false, Bool.not_true, Bool.not_false, Int.toNat_natCast, Nat.mul_one, beqI_yes, beqI_no, bneI_yes, bneI_no, isNil_nil, isNil_iface, wr_wr, Option.isNone_none, Option.isNone_some, plus, Nat.zero_add, Nat.add_zero]
        refine hnx (r - 1) _ _ _ _ _ _ _ _ _ _ _ _ _ _ _ _ _ (by omega) ⟨rfl, rfl, rfl, rfl, rfl, rfl, rfl, rfl, rfl, rfl, rfl, rfl, rfl, rfl, rfl, j + 1, by omega, by omega, ?_⟩
        rw [mxN]; omega
      · rw [decide_eq_false hgt, cond_false]
        unfold patinalaw06_FrameMends_j1
        simp (disch := omega) only [Option.bind_some, Option.map_some, cond_true, cond_false, wrap_i64, tmod_pos, tdiv_pos, inRange_yes, inUpto_yes, isZero_no, decide_eq_true, decide_eq_false, Bool.not_true, Bool.not_false, Int.toNat_natCast, Nat.mul_one, beqI_yes, beqI_no, bneI_yes, bneI_no, isNil_nil, isNil_iface, wr_wr, Option.isNone_none, Option.isNone_some, plus, Nat.zero_add, Nat.add_zero]
        refine hnx (r - 1) _ _ _ _ _ _ _ _ _ _ _ _ _ _ _ _ _ (by omega) ⟨rfl, rfl, rfl, rfl, rfl, rfl, rfl, rfl, rfl, rfl, rfl, rfl, rfl, rfl, rfl, j + 1, by omega, by omega, ?_⟩
        rw [mxN]; omega
    obtain rfl : j = 3 := by omega
    clear hnx hj hr
    have u1 : inUpto 192 256 = true := rfl
    have t192 : Int.toNat 192 = 192 := rfl
    have f1 := hEa 3 (by omega) 64 64
    rw [show 3 * 64 = 192 from rfl] at f1
    have s1 : 256 - 192 = 64 := rfl
    rw [decide_eq_false (show ¬ ((3 : Nat) : Int) < 3 by omega), cond_false]
    simp only [ho1, u1, Bool.and_self, cond_true, t192, clear_f, Option.map_some, plus, Nat.zero_add, Nat.mul_one, s1, f1, Option.bind_some]
    have hsrc : Src mY (some ⟨M.length, 0, some 1⟩) 256 y := Src.of hl
    -- the tag
    have tagj : ∀ (r33 : Sl × Int × Value × Mem) (mj : Mem) (e2 : Nat), mY[m2.length + 1]? = some (.live (bys 50 xb)) → Gr mY mj → Gr mY r33.2.2.2 →
        ((∃ u n d, GF.dec (wd y 3) = some (u, n) ∧ marked u ∧ r33.1 = ⟨some ⟨d, 0, none⟩, 50, 50⟩ ∧ r33.2.1 = (n : Nat) ∧ r33.2.2.1 = .nilIface ∧ mj[d]? = some (.live (bys 58 u))) ∨ (∃ u n, GF.dec (wd y 3) = some (u, n) ∧ ¬ marked u ∧ r33.1 = ⟨none, 0, 0⟩ ∧ r33.2.1 = 0 ∧ r33.2.2.1 = errC 6) ∨ (GF.dec (wd y 3) = none ∧ r33.1 = ⟨none, 0, 0⟩ ∧ r33.2.1 = 0 ∧ r33.2.2.1 = errC 5)) →
        Ok (patinalaw06_FrameMends_j2 k true (some ⟨m2.length + 1, 0, none⟩) 50 50 ((E 3 : Int), mY) r33 mj) fun r => r.1 = true := by
      rintro ⟨s33, n33, v33, M33⟩ mj _ hbx hgj _ hres
      unfold patinalaw06_FrameMends_j2
      simp only at hres ⊢
      by_cases h2 : E 3 ≤ 2
      · rw [decide_eq_true (show ((E 3 : Nat) : Int) ≤ 2 by omega), cond_true]
        have h2' : GF.df (wd y 3) (C 3) ≤ 2 := by rw [hE] at h2; exact h2
        obtain ⟨v, v1, v2⟩ := dec_le (hcode 3) h2'
        have hmk : marked v := fun i hi => by
          rw [v2 _ (by omega), hCd]
          show GF.cw gC (msgs x xb 3) (50 + i) = mrk i
          unfold GF.cw; rw [if_pos (by omega)]
          show whole x xb (3 * 58 + (50 + i)) = _
          unfold whole; rw [if_neg (by omega)]
          unfold sealed; rw [if_neg (by omega), show 3 * 58 + (50 + i) - 174 - 50 = i by omega]
        rcases hres with ⟨u, n, d, hu, hm, rfl, rfl, rfl, hd⟩ | ⟨u, n, hu, hm, _⟩ | ⟨hu, _⟩
        · rw [v1] at hu
          simp only [Option.some.injEq, Prod.mk.injEq] at hu
          obtain ⟨rfl, rfl⟩ := hu
          obtain ⟨z, s1, s2⟩ := same_is k (c := 50) (c' := 50) (Src.take (sp := none) hd (l := 50) (by omega)) (Src.of (sp := none) (hgj.get hbx)) (by omega) (by omega)
          have hz : z = true := s2.2 ⟨rfl, fun i hi => by
            rw [v2 i (by omega), hCd]
            show GF.cw gC (msgs x xb 3) i = xb i
            unfold GF.cw; rw [if_pos (by omega)]
            show whole x xb (3 * 58 + i) = _
            unfold whole; rw [if_neg (by omega)]
            unfold sealed; rw [if_pos (by omega), show 3 * 58 + i - 174 = i by omega]⟩
          subst hz
          have heq : GF.df (wd y 3) (C 3) = E 3 := by rw [hE]
          rw [heq]
          simp (disch := omega) only [Option.bind_some, Option.map_some, cond_true, cond_false, wrap_i64, tmod_pos, tdiv_pos, inRange_yes, inUpto_yes, isZero_no, decide_eq_true, decide_eq_false, Bool.not_true, Bool.not_false, Int.toNat_natCast, Nat.mul_one, beqI_yes, beqI_no, bneI_yes, bneI_no, isNil_nil, isNil_iface, wr_wr, Option.isNone_none, Option.isNone_some, plus, Nat.zero_add, Nat.add_zero, s1, isNil_nil, beq_self_eq_true]
          exact .some rfl
        · rw [v1] at hu
          simp only [Option.some.injEq, Prod.mk.injEq] at hu
          exact absurd (hu.1 ▸ hmk) hm
        · rw [v1] at hu; cases hu
      · rw [decide_eq_false (show ¬ ((E 3 : Nat) : Int) ≤ 2 by omega), cond_false, cond_true]
        by_cases h4 : E 3 ≤ 4
        · rw [decide_eq_false (show ¬ ((E 3 : Nat) : Int) > 4 by omega), cond_false]
          have hn := dec_34 (hcode 3) (y := wd y 3) (by rw [hE] at h2; simp only at h2; omega) (by rw [hE] at h4; exact h4)
          rcases hres with ⟨u, n, d, hu, _⟩ | ⟨u, n, hu, _⟩ | ⟨_, rfl, rfl, rfl⟩
          · rw [hn] at hu; cases hu
          · rw [hn] at hu; cases hu
          · have e1 : ifEq tt (errC 5) (.iface ty_api_Code (.int .i64 5)) = some true := by rw [ifEq_errC 5 5 (by omega)]; rfl
            have z0 : (((0 : Nat) : Int) == 0) = true := rfl
            simp (disch := omega) only [Option.bind_some, Option.map_some, cond_true, cond_false, wrap_i64, tmod_pos, tdiv_pos, inRange_yes, inUpto_yes, isZero_no, decide_eq_true, decide_eq_false, Bool.not_true, Bool.not_false, Int.toNat_natCast, Nat.mul_one, beqI_yes, beqI_no, bneI_yes, bneI_no, isNil_nil, isNil_iface, wr_wr, Option.isNone_none, Option.isNone_some, plus, Nat.zero_add, Nat.add_zero, e1, z0]
            exact .some rfl
        · rw [decide_eq_true (show ((E 3 : Nat) : Int) > 4 by omega), cond_true]
          exact .some rfl
    refine .bind (data_ok k hk hCY (ca := 256) hsrc (.inr rfl) (by omega)) ?_
    rintro ⟨s32, n32, v32, m32⟩ ⟨hg32, hdat⟩
    simp only at hg32 hdat ⊢
    refine .bind (body_ok k hk (hCY.grow hg32) (ca := 256) (hsrc.grow hg32) (.inr rfl) (by omega)) ?_
    rintro ⟨s33, n33, v33, m33⟩ ⟨hg33, hbod⟩
    simp only at hg33 hbod ⊢
    have hg3 := hg32.trans hg33
    have hbod' : ∀ mj, Gr m33 mj → ((∃ u n d, GF.dec (wd y 3) = some (u, n) ∧ marked u ∧ s33 = ⟨some ⟨d, 0, none⟩, 50, 50⟩ ∧ n33 = (n : Nat) ∧ v33 = .nilIface ∧ mj[d]? = some (.live (bys 58 u))) ∨ (∃ u n, GF.dec (wd y 3) = some (u, n) ∧ ¬ marked u ∧ s33 = ⟨none, 0, 0⟩ ∧ n33 = 0 ∧ v33 = errC 6) ∨ (GF.dec (wd y 3) = none ∧ s33 = ⟨none, 0, 0⟩ ∧ n33 = 0 ∧ v33 = errC 5)) := by
      intro mj hgj
      rcases hbod with ⟨u, n, d, h1, h2, h3, h4, h5, h6, h7⟩ | h | h
      · exact .inl ⟨u, n, d, h1, h2, h3, h4, h5, hgj.get h7⟩
      · exact .inr (.inl h)
      · exact .inr (.inr h)
    by_cases hm2' : mxN E 3 ≤ 2
    · rw [decide_eq_true (show ((mxN E 3 : Nat) : Int) ≤ 2 by omega), cond_true]
      have hall : ∀ j, j < 3 → ∃ v, GF.dec (wd y j) = some (v, E j) ∧ ∀ i, i < 64 → v i = C j i := fun j hj => by
        have := mxN_le.1 hm2' j hj
        rw [hE] at this ⊢
        exact dec_le (hcode j) this
      rcases hdat with ⟨U, N, d, hd, rfl, rfl, rfl, _, h7⟩ | ⟨j, hj, hd, _⟩
      · have hUN : ∀ j, j < 3 → N j = E j ∧ ∀ i, i < 64 → U j i = C j i := fun j hj => by
          obtain ⟨v, v1, v2⟩ := hall j hj
          have := (hd j hj).symm.trans v1
          simp only [Option.some.injEq, Prod.mk.injEq] at this
          exact ⟨this.2, fun i hi => by rw [this.1]; exact v2 i hi⟩
        obtain ⟨z, s1, s2⟩ := same_is k (c := 174) (c' := 174) (Src.of (sp := some 1) (hg33.get h7)) (Src.of (sp := none) (hg3.get hxY)) (by omega) (by omega)
        have hz : z = true := s2.2 ⟨rfl, fun i hi => by
          rw [(hUN (i / 58) (by omega)).2 (i % 58) (by omega), hCd]
          show GF.cw gC (msgs x xb (i / 58)) (i % 58) = x i
          unfold GF.cw; rw [if_pos (by omega)]
          show whole x xb (i / 58 * 58 + i % 58) = _
          rw [show i / 58 * 58 + i % 58 = i by omega]
          unfold whole; rw [if_pos hi]⟩
        subst hz
        have hN : mxN N 3 = mxN E 3 := mxN_congr fun j hj => (hUN j hj).1
        have hne : (((mxN N 3 : Nat) : Int) != ((mxN E 3 : Nat) : Int)) = false := by rw [hN]; simp
        simp (disch := omega) only [Option.bind_some, Option.map_some, cond_true, cond_false, wrap_i64, tmod_pos, tdiv_pos, inRange_yes, inUpto_yes, isZero_no, decide_eq_true, decide_eq_false, Bool.not_true, Bool.not_false, Int.toNat_natCast, Nat.mul_one, beqI_yes, beqI_no, bneI_yes, bneI_no, isNil_nil, isNil_iface, wr_wr, Option.isNone_none, Option.isNone_some, plus, Nat.zero_add, Nat.add_zero, s1, isNil_nil, hne]
        exact tagj (s33, n33, v33, m33) m33 0 hbY hg3 hg3 (hbod' m33 (Gr.refl _))
      · obtain ⟨v, v1, _⟩ := hall j hj
        rw [hd] at v1; cases v1
    · rw [decide_eq_false (show ¬ ((mxN E 3 : Nat) : Int) ≤ 2 by omega), cond_false]
      by_cases hm4 : mxN E 3 ≤ 4
      · rw [decide_eq_true (show ((mxN E 3 : Nat) : Int) ≤ 4 by omega), cond_true]
        have hex : ∃ j, j < 3 ∧ 2 < E j := Classical.byContradiction fun hno => hm2' (mxN_le.2 fun j hj => Nat.le_of_not_lt fun h => hno ⟨j, hj, h⟩)
        obtain ⟨j, hj, hEj⟩ := hex
        have hE4 := mxN_le.1 hm4 j hj
        have hn := dec_34 (hcode j) (y := wd y j) (by rw [hE] at hEj; exact hEj) (by rw [hE] at hE4; exact hE4)
        rcases hdat with ⟨U, N, d, hd, _⟩ | ⟨j', hj', hd, rfl, rfl, rfl⟩
        · have := hd j hj; rw [hn] at this; cases this
        · have e1 : ifEq tt (errC 5) (.iface ty_api_Code (.int .i64 5)) = some true := by rw [ifEq_errC 5 5 (by omega)]; rfl
          have z0 : (((0 : Nat) : Int) != 0) = false := rfl
          simp (disch := omega) only [Option.bind_some, Option.map_some, cond_true, cond_false, wrap_i64, tmod_pos, tdiv_pos, inRange_yes, inUpto_yes, isZero_no, decide_eq_true, decide_eq_false, Bool.not_true, Bool.not_false, Int.toNat_natCast, Nat.mul_one, beqI_yes, beqI_no, bneI_yes, bneI_no, isNil_nil, isNil_iface, wr_wr, Option.isNone_none, Option.isNone_some, plus, Nat.zero_add, Nat.add_zero, e1, z0]
          exact tagj (s33, n33, v33, m33) m33 0 hbY hg3 hg3 (hbod' m33 (Gr.refl _))
      · rw [decide_eq_false (show ¬ ((mxN E 3 : Nat) : Int) ≤ 4 by omega), cond_false]
        exact tagj (s33, n33, v33, m33) m33 0 hbY hg3 hg3 (hbod' m33 (Gr.refl _))
  obtain ⟨⟨r, m'⟩, h1, h2⟩ := key
  exact ⟨m', by rw [h1]; simp only at h2; rw [h2]⟩
end Go.Proofs.Ytmfmoanjecjeeaa
