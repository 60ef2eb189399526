/- The layer's own example. -/
import Derived.Test.YtmfmoanjecjeeaaFr2
import Derived.Test.YtmfmoanjecjeeaaFr3
import Derived.Test.YtmfmoanjecjeeaaFpatinalaw06
set_option linter.unusedVariables false
set_option linter.unusedSectionVars false
set_option linter.unusedSimpArgs false
namespace Go.Proofs.Ytmfmoanjecjeeaa
open Go.Mx

theorem zero_code : GF.Code fun _ => 0 := by
  have h := GF.cw_code gC_gen fun _ => 0
  have h2 := h.add h
  have : (fun i => GF.cw gC (fun _ => 0) i + GF.cw gC (fun _ => 0) i) = fun _ => (0 : GF) := funext fun i => GF.add_self _
  rwa [this] at h2

theorem shown6_ok (k : Nat) (hk : 1000 < k) (m : Mem) : Ok (patinalaw06_shown k m) fun r => r.1 = true ∧ Gr m r.2 := by
  unfold patinalaw06_shown
  refine .bind (frameNew_ok k hk m) ?_
  rintro ⟨_, m1⟩ ⟨c, rfl, hg1, hc, hC⟩
  simp only at hg1 hC ⊢
  have t174 : Int.toNat 174 = 174 := rfl
  have t173 : Int.toNat 173 = 173 := rfl
  have t50 : Int.toNat 50 = 50 := rfl
  have t256 : Int.toNat 256 = 256 := rfl
  have t70 : Int.toNat 70 = 70 := rfl
  simp (disch := omega) only [Option.bind_some, Option.map_some, cond_true, cond_false, wrap_i64, tmod_pos, tdiv_pos, inRange_yes, inUpto_yes, isZero_no, decide_eq_true, decide_eq_false, Bool.not_true, Bool.not_false, Int.toNat_natCast, Nat.mul_one, beqI_yes, beqI_no, bneI_yes, bneI_no, isNil_nil, isNil_iface, wr_wr, Option.isNone_none, Option.isNone_some, plus, Nat.zero_add, Nat.add_zero, t174, t173, t50, t256, t70, bys_zero]
  have z1 := get_last (m := m1) (o := .live (bys 174 fun _ => 0)) rfl
  have z2 := get_last (m := m1 ++ [MObj.live (bys 174 fun _ => 0)]) (o := .live (bys 50 fun _ => 0)) rfl
  have g2 := (Gr.app m1 [.live (bys 174 fun _ => (0 : GF))]).trans (Gr.app _ [.live (bys 50 fun _ => (0 : GF))])
  refine .bind (lay_ok k hk (ca := 174) (cb := 50) (hC.grow g2) (Src.of (get_grow z1)) (Src.of z2)) ?_
  rintro ⟨_, _, m4⟩ ⟨q, D, rfl, rfl, hg4, -, -, -⟩
  simp only at hg4 ⊢
  have G4 := g2.trans hg4
  simp (disch := omega) only [Option.bind_some, Option.map_some, cond_true, cond_false, wrap_i64, tmod_pos, tdiv_pos, inRange_yes, inUpto_yes, isZero_no, decide_eq_true, decide_eq_false, Bool.not_true, Bool.not_false, Int.toNat_natCast, Nat.mul_one, beqI_yes, beqI_no, bneI_yes, bneI_no, isNil_nil, isNil_iface, wr_wr, Option.isNone_none, Option.isNone_some, plus, Nat.zero_add, Nat.add_zero]
  have z3 := get_last (m := m4 ++ [MObj.live (bys 173 fun _ => 0)]) (o := .live (bys 50 fun _ => 0)) rfl
  have g6 := (Gr.app m4 [.live (bys 173 fun _ => (0 : GF))]).trans (Gr.app _ [.live (bys 50 fun _ => (0 : GF))])
  refine .bind (lay_no k (n1 := 173) (n2 := 50) (fun h => by omega)) ?_
  rintro ⟨_, _, m7⟩ ⟨rfl, rfl, hg7⟩
  simp only at hg7 ⊢
  have G7 := (G4.trans g6).trans hg7
  have n4 : (((4 : Nat) : Int) != 4) = false := rfl
  have i70 : inRange 70 256 = true := rfl
  have p9 := get_last (m := m7) (o := .live (bys 256 fun _ => 0)) rfl
  have e1 := bys_st (sp := none) p9 (i := 70) (by omega) (GF.of 1)
  have e1' : ((GF.of 1).v : Int) = 1 := by decide +kernel
  rw [e1'] at e1
  have g9 := (Gr.app m7 [.live (bys 256 fun _ => (0 : GF))]).wr (Nat.le_refl _) (bys 256 (put (fun _ => 0) 70 (GF.of 1)))
  have p10 := wr_get (cs := bys 256 (put (fun _ => 0) 70 (GF.of 1))) p9
  simp (disch := omega) only [Option.bind_some, Option.map_some, cond_true, cond_false, wrap_i64, tmod_pos, tdiv_pos, inRange_yes, inUpto_yes, isZero_no, decide_eq_true, decide_eq_false, Bool.not_true, Bool.not_false, Int.toNat_natCast, Nat.mul_one, beqI_yes, beqI_no, bneI_yes, bneI_no, isNil_nil, isNil_iface, wr_wr, Option.isNone_none, Option.isNone_some, plus, Nat.zero_add, Nat.add_zero, isNil_nil, n4, i70, e1]
  generalize wr (m7 ++ [MObj.live (bys 256 fun _ => 0)]) m7.length (bys 256 (put (fun _ => 0) 70 (GF.of 1))) = m9 at *
  have C9 := hC.grow (G7.trans g9)
  -- the words
  have hw : ∀ j, j < 4 → ∃ v, GF.dec (wd (put (fun _ => 0) 70 (GF.of 1)) j) = some (v, if j = 1 then 1 else 0) ∧ ∀ i, i < 64 → v i = 0 := by
    intro j hj
    refine GF.dec_of zero_code ?_ (by split <;> omega)
    unfold GF.df
    by_cases h : j = 1
    · subst h
      rw [if_pos rfl]
      refine GF.wt_single (i0 := 6) (by omega) ?_ fun i hi hne => ?_
      · show put (fun _ => 0) 70 (GF.of 1) (1 * 64 + 6) + 0 ≠ 0
        rw [GF.add_zero]; unfold put; rw [if_pos (by omega)]; decide +kernel
      · show put (fun _ => 0) 70 (GF.of 1) (1 * 64 + i) + 0 = 0
        rw [GF.add_zero]; unfold put; rw [if_neg (by omega)]
    · rw [if_neg h]
      refine GF.df_self fun i hi => ?_
      show put (fun _ => 0) 70 (GF.of 1) (j * 64 + i) = 0
      unfold put; rw [if_neg (by omega)]
  refine .bind (data_ok k hk C9 (ca := 256) (Src.of (sp := none) p10) (.inl rfl) (by omega)) ?_
  rintro ⟨_, _, _, m12⟩ ⟨hg12, ⟨U, N, q2, hd, rfl, rfl, rfl, _, h12⟩ | ⟨j, hj, hd, _⟩⟩
  · simp only at hg12 h12 ⊢
    have hUN : ∀ j, j < 3 → (N j = if j = 1 then 1 else 0) ∧ ∀ i, i < 64 → U j i = 0 := by
      intro j hj
      obtain ⟨v, v1, v2⟩ := hw j (by omega)
      have := (hd j hj).symm.trans v1
      simp only [Option.some.injEq, Prod.mk.injEq] at this
      exact ⟨this.2, fun i hi => by rw [this.1]; exact v2 i hi⟩
    have hN : mxN N 3 = 1 := by
      have n0 := (hUN 0 (by omega)).1
      have n1 := (hUN 1 (by omega)).1
      have n2 := (hUN 2 (by omega)).1
      simp only [mxN, n0, n1, n2]; decide
    refine .bind (body_ok k hk (C9.grow hg12) (ca := 256) (Src.of (sp := none) (hg12.get p10)) (.inl rfl) (by omega)) ?_
    rintro ⟨_, _, _, m13⟩ ⟨hg13, ⟨u, n, d, hu, hm, _⟩ | ⟨u, n, hu, hm, rfl, rfl, rfl⟩ | ⟨hu, _⟩⟩
    · exfalso
      obtain ⟨v, v1, v2⟩ := hw 3 (by omega)
      have := hu.symm.trans v1
      simp only [Option.some.injEq, Prod.mk.injEq] at this
      have h0 := hm 0 (by omega)
      rw [this.1, v2 50 (by omega)] at h0
      exact absurd h0 (by decide +kernel)
    · simp only at hg13 ⊢
      have z9 := get_last (m := m13) (o := .live (bys 174 fun _ => 0)) rfl
      obtain ⟨z, s1, s2⟩ := same_is k (c := 174) (c' := 174) (Src.of (sp := some 1) (get_grow (g := [.live (bys 174 fun _ => (0 : GF))]) (hg13.get h12))) (Src.of (sp := none) z9) (by omega) (by omega)
      have hz : z = true := s2.2 ⟨rfl, fun i hi => (hUN (i / 58) (by omega)).2 _ (by omega)⟩
      subst hz
      have e10 : ifEq tt (errC 1) (.iface ty_api_Code (.int .i64 1)) = some true := by rw [ifEq_errC 1 1 (by omega)]; rfl
      have e11 : ifEq tt (errC 6) (.iface ty_api_Code (.int .i64 6)) = some true := by rw [ifEq_errC 6 6 (by omega)]; rfl
      have e12 : (((mxN N 3 : Nat) : Int) == 1) = true := by rw [hN]; rfl
      simp (disch := omega) only [Option.bind_some, Option.map_some, cond_true, cond_false, wrap_i64, tmod_pos, tdiv_pos, inRange_yes, inUpto_yes, isZero_no, decide_eq_true, decide_eq_false, Bool.not_true, Bool.not_false, Int.toNat_natCast, Nat.mul_one, beqI_yes, beqI_no, bneI_yes, bneI_no, isNil_nil, isNil_iface, wr_wr, Option.isNone_none, Option.isNone_some, plus, Nat.zero_add, Nat.add_zero, s1, e12, e10, e11]
      exact .some ⟨rfl, hg1.trans ((((G7.trans g9).trans hg12).trans hg13).trans (Gr.app _ _))⟩
    · obtain ⟨v, v1, v2⟩ := hw 3 (by omega)
      rw [hu] at v1; cases v1
  · obtain ⟨v, v1, v2⟩ := hw j (by omega)
    rw [hd] at v1; cases v1
end Go.Proofs.Ytmfmoanjecjeeaa
