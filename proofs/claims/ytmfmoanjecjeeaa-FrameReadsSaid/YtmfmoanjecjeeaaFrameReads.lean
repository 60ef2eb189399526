/- FrameReads: Message, Data and Body of any bytes; what came out stays its owner's. For every list of bytes and every whole number. -/
import Derived.Test.YtmfmoanjecjeeaaFr8
import Derived.Test.YtmfmoanjecjeeaaErr1
import Derived.Test.YtmfmoanjecjeeaaFLFrameReads
set_option linter.unusedVariables false
set_option linter.unusedSectionVars false
set_option linter.unusedSimpArgs false
namespace Go.Proofs.Ytmfmoanjecjeeaa
open Go.Mx

theorem FOut.grow {m0 m m' : Mem} {s : Sl} {a : Int} {e : Value} {t : Told} (h : FOut m0 m s a e t) (hg : Gr m m') : FOut m0 m' s a e t := by
  obtain ⟨R, L, h1, h2, h3, h4, h5, h6⟩ := h
  exact ⟨R, L, h1, h2.grow hg, h3, h4, h5, h6.trans hg⟩
theorem same_told (k : Nat) {m : Mem} {R : RA} {L : Nat} {s' : Sl} {t : Told} (h : RowLive m R t.n L (fun u => ∀ i, i < t.n → u i = t.w i)) (h1 : s'.len = t.n) (h2 : Src m s'.a t.n t.w) (hk : 1000 < k) (hn : t.n < 1000) : patinaref01_Same k (rowA R) t.n t.n s'.a s'.len s'.cap m = some (true, m) := by
  obtain ⟨z, s1, s2⟩ := same_is k (c := t.n) (c' := s'.cap) h.src h2 (by omega) (by omega)
  rw [h1, s1, s2.2 ⟨rfl, fun i _ => rfl⟩]

theorem frameReads_run (o0 : MObj) (a0 : Option Addr) (n0 c0 : Nat) (cs0 : List Value) (p1 : Int) (hh0 : Holds o0 0 a0 n0 [.int .u8] cs0) (hc0 : n0 ≤ c0) (y0 : n0 * 1 ≤ 140737488351232) (hp1 : (Lit.int .i64 p1).wf = true) :
    ∃ k m', patinalaw06_FrameReads k a0 n0 c0 p1 [o0] = some (true, m') := by
  obtain ⟨w0, hw0⟩ := holds_src (m := [o0]) hh0 rfl
  obtain ⟨k, hk, hk0⟩ : ∃ k, 1000 < k ∧ n0 + 5 < k := ⟨n0 + 1006, by omega, by omega⟩
  refine ⟨k, ?_⟩
  have key : Ok (patinalaw06_FrameReads k a0 n0 c0 p1 [o0]) fun r => r.1 = true := by
    unfold patinalaw06_FrameReads
    refine .bind (shown6_ok k hk _) ?_
    rintro ⟨_, m1⟩ ⟨rfl, hg1⟩
    refine .bind (frameNew_ok k hk m1) ?_
    rintro ⟨_, m2⟩ ⟨c, rfl, hg2, _, hC⟩
    simp only at hg1 hg2 hC ⊢
    have hG := hg1.trans hg2
    have hlen0 : ([o0] : Mem).length = 1 := rfl
    have hl2 := hG.len
    rw [hlen0] at hl2
    simp (disch := omega) only [Option.bind_some, Option.map_some, cond_true, cond_false, wrap_i64, tmod_pos, tdiv_pos, inRange_yes, inUpto_yes, isZero_no, decide_eq_true, decide_eq_false, Bool.not_true, Bool.not_false, Int.toNat_natCast, Nat.mul_one, beqI_yes, beqI_no, bneI_yes, bneI_no, isNil_nil, isNil_iface, wr_wr, Option.isNone_none, Option.isNone_some, plus, Nat.zero_add, Nat.add_zero]
    refine .bind (lend_ok k hk (c := c0) (hw0.grow hG) (by omega)) ?_
    rintro ⟨_, m3⟩ ⟨x, d, e, u, rfl, hg3, hx3, hd3, he3, hL, hu⟩
    simp only at hg3 hL ⊢
    have b1 := bytes_is k hL
    have xl := get_lt hL.x_
    have dl := get_lt hL.d_
    have el := get_lt hL.e_
    have su : Src m3 (some ⟨d, 0, some 1⟩) n0 u := Src.take (sp := some 1) hL.d_ (by omega)
    have hC3 := hC.grow hg3
    simp (disch := omega) only [Option.bind_some, Option.map_some, cond_true, cond_false, wrap_i64, tmod_pos, tdiv_pos, inRange_yes, inUpto_yes, isZero_no, decide_eq_true, decide_eq_false, Bool.not_true, Bool.not_false, Int.toNat_natCast, Nat.mul_one, beqI_yes, beqI_no, bneI_yes, bneI_no, isNil_nil, isNil_iface, wr_wr, Option.isNone_none, Option.isNone_some, plus, Nat.zero_add, Nat.add_zero, b1]
    refine .bind (msgF k hk (ca := n0 + 5) su (fun _ => ⟨_, rfl, .inr rfl⟩) (by omega) hC3 p1) ?_
    rintro ⟨_, _, _, m5⟩ ⟨R1, L1, rfl, r1, f1, rfl, rfl, hg5⟩
    simp only at r1 hg5 ⊢
    have b2 := bytes_is k (hL.grow hg5)
    simp (disch := omega) only [Option.bind_some, Option.map_some, cond_true, cond_false, wrap_i64, tmod_pos, tdiv_pos, inRange_yes, inUpto_yes, isZero_no, decide_eq_true, decide_eq_false, Bool.not_true, Bool.not_false, Int.toNat_natCast, Nat.mul_one, beqI_yes, beqI_no, bneI_yes, bneI_no, isNil_nil, isNil_iface, wr_wr, Option.isNone_none, Option.isNone_some, plus, Nat.zero_add, Nat.add_zero, b2]
    refine .bind (dataF k hk (ca := n0 + 5) (su.grow hg5) (fun _ => ⟨_, rfl, .inr rfl⟩) (by omega) (hC3.grow hg5)) ?_
    rintro ⟨_, _, _, m7⟩ ⟨R2, L2, rfl, r2, f2, rfl, rfl, hg7⟩
    simp only at r2 hg7 ⊢
    have G7 := hg5.trans hg7
    have b3 := bytes_is k (hL.grow G7)
    simp (disch := omega) only [Option.bind_some, Option.map_some, cond_true, cond_false, wrap_i64, tmod_pos, tdiv_pos, inRange_yes, inUpto_yes, isZero_no, decide_eq_true, decide_eq_false, Bool.not_true, Bool.not_false, Int.toNat_natCast, Nat.mul_one, beqI_yes, beqI_no, bneI_yes, bneI_no, isNil_nil, isNil_iface, wr_wr, Option.isNone_none, Option.isNone_some, plus, Nat.zero_add, Nat.add_zero, b3]
    refine .bind (bodyF k hk (ca := n0 + 5) (su.grow G7) (fun _ => ⟨_, rfl, .inr rfl⟩) (by omega) (hC3.grow G7)) ?_
    rintro ⟨_, _, _, m9⟩ ⟨R3, L3, rfl, r3, f3, rfl, rfl, hg9⟩
    simp only at r3 hg9 ⊢
    have G9 := G7.trans hg9
    have k1 := kept_is k (hL.grow G9) hk0 (by omega)
    have q1 := r1.grow (hg7.trans hg9)
    have q2 := r2.grow hg9
    have lm5 := hg5.len
    have lm7 := hg7.len
    have lm9 := hg9.len
    simp (disch := omega) only [Option.bind_some, Option.map_some, cond_true, cond_false, wrap_i64, tmod_pos, tdiv_pos, inRange_yes, inUpto_yes, isZero_no, decide_eq_true, decide_eq_false, Bool.not_true, Bool.not_false, Int.toNat_natCast, Nat.mul_one, beqI_yes, beqI_no, bneI_yes, bneI_no, isNil_nil, isNil_iface, wr_wr, Option.isNone_none, Option.isNone_some, plus, Nat.zero_add, Nat.add_zero, k1]
    refine .bind (turn_ok k (hL.grow G9) hk0 (by omega)) ?_
    rintro m11 ⟨⟨v, hv⟩, hf11, hl11, hG11⟩
    have G11 := hG11 [o0] (hG.trans (hg3.trans G9)) (by rw [hlen0]; omega) (by rw [hlen0]; omega)
    have w11 := hw0.grow G11
    -- the rows behind the turn
    have t1 := q1.keep (m' := m11) fun D hD => hf11 D (by have := f1 D hD; omega) (by have := f1 D hD; omega)
    have t2 := q2.keep (m' := m11) fun D hD => hf11 D (by have := f2 D hD; omega) (by have := f2 D hD; omega)
    have t3 := r3.keep (m' := m11) fun D hD => hf11 D (by have := f3 D hD; omega) (by have := f3 D hD; omega)
    have d1 := r1.lt
    have d2 := r2.lt
    have d3 := r3.lt
    have w11 : Src m11 a0 n0 u := (hw0.grow G11).congr hu
    -- the document
    have ha0 : n0 = 256 → ∃ ad, a0 = some ad ∧ okS ad := fun h => ⟨_, (hh0.2.2 (by omega)).1, .inl rfl⟩
    refine .bind (msgR k hk w11 ha0 hc0 p1) ?_
    rintro ⟨s1, _, _, m12⟩ ⟨z1, y1, rfl, rfl, hg12⟩
    simp only at z1 y1 hg12 ⊢
    refine .bind (dataR k hk (w11.grow hg12) ha0 hc0) ?_
    rintro ⟨s2, _, _, m13⟩ ⟨z2, y2, rfl, rfl, hg13⟩
    simp only at z2 y2 hg13 ⊢
    refine .bind (bodyR k hk (w11.grow (hg12.trans hg13)) ha0 hc0) ?_
    rintro ⟨s3, _, _, m14⟩ ⟨z3, y3, rfl, rfl, hg14⟩
    simp only at z3 y3 hg14 ⊢
    have g14 := (hg12.trans hg13).trans hg14
    have x1 := t1.grow g14
    have x2 := t2.grow g14
    have x3 := t3.grow g14
    have c1 := same_told k x1 z1 (y1.grow (hg13.trans hg14)) hk msgS_len
    have c2 := same_told k x2 z2 (y2.grow hg14) hk dataS_len
    have c3 := same_told k x3 z3 y3 hk bodyS_len
    have o1 := code_is k (msgS n0 u p1).e m14 msgS_code
    have o2 := code_is k (dataS n0 u).e m14 dataS_code
    have o3 := code_is k (bodyS n0 u).e m14 bodyS_code
    simp (disch := omega) only [Option.bind_some, Option.map_some, cond_true, cond_false, wrap_i64, tmod_pos, tdiv_pos, inRange_yes, inUpto_yes, isZero_no, decide_eq_true, decide_eq_false, Bool.not_true, Bool.not_false, Int.toNat_natCast, Nat.mul_one, beqI_yes, beqI_no, bneI_yes, bneI_no, isNil_nil, isNil_iface, wr_wr, Option.isNone_none, Option.isNone_some, plus, Nat.zero_add, Nat.add_zero, c1, c2, c3, o1, o2, o3, beq_self_eq_true]
    -- each is its own
    let R : Nat → RA := fun i => if i = 0 then R1 else if i = 1 then R2 else R3
    let nn : Nat → Nat := fun i => if i = 0 then (msgS n0 u p1).n else if i = 1 then (dataS n0 u).n else (bodyS n0 u).n
    let LL : Nat → Nat := fun i => if i = 0 then L1 else if i = 1 then L2 else L3
    have hbox : ([.slice (rowA R1) (msgS n0 u p1).n (msgS n0 u p1).n, .slice (rowA R2) (dataS n0 u).n (dataS n0 u).n, .slice (rowA R3) (bodyS n0 u).n (bodyS n0 u).n] : List Value) = slr 3 R nn := rfl
    rw [hbox]
    have l11 := g14.len
    have l14 : (m14 ++ [MObj.live (slr 3 R nn)]).length = m14.length + 1 := by simp
    have e1 : ∀ D, rowD R1 = some D → m3.length ≤ D ∧ D < m5.length := fun D hD => ⟨f1 D hD, d1 D hD⟩
    have e2 : ∀ D, rowD R2 = some D → m5.length ≤ D ∧ D < m7.length := fun D hD => ⟨f2 D hD, d2 D hD⟩
    have e3 : ∀ D, rowD R3 = some D → m7.length ≤ D ∧ D < m9.length := fun D hD => ⟨f3 D hD, d3 D hD⟩
    have eR : ∀ i D, rowD (R i) = some D → m3.length ≤ D ∧ D < m9.length := by
      intro i D hD
      by_cases h0 : i = 0
      · subst h0; have := e1 D hD; omega
      · by_cases h1 : i = 1
        · subst h1; have := e2 D hD; omega
        · have hR : R i = R3 := by show (if i = 0 then R1 else if i = 1 then R2 else R3) = R3; rw [if_neg h0, if_neg h1]
          rw [hR] at hD
          have := e3 D hD; omega
    have hv14 := hv.grow g14
    refine .bind (apart2_ok k hk (cc := 3) (L := LL) (get_last (m := m14) rfl) ?_ ?_ ?_ (fun i _ h => ?_) (by omega) (by omega)) ?_
    · intro j hj
      have : j = 0 ∨ j = 1 ∨ j = 2 := by omega
      rcases this with rfl | rfl | rfl
      · exact (x1.grow (Gr.app _ _)).weak fun _ _ => trivial
      · exact (x2.grow (Gr.app _ _)).weak fun _ _ => trivial
      · exact (x3.grow (Gr.app _ _)).weak fun _ _ => trivial
    · intro j hj
      have : j = 0 ∨ j = 1 ∨ j = 2 := by omega
      rcases this with rfl | rfl | rfl
      · exact msgS_len
      · exact dataS_len
      · exact bodyS_len
    · intro i j hi hj hij D hD hD'
      have h1 : i = 0 ∨ i = 1 ∨ i = 2 := by omega
      have h2 : j = 0 ∨ j = 1 ∨ j = 2 := by omega
      rcases h1 with rfl | rfl | rfl <;> rcases h2 with rfl | rfl | rfl
      · exact hij rfl
      · have := e1 D hD; have := e2 D hD'; omega
      · have := e1 D hD; have := e3 D hD'; omega
      · have := e2 D hD; have := e1 D hD'; omega
      · exact hij rfl
      · have := e2 D hD; have := e3 D hD'; omega
      · have := e3 D hD; have := e1 D hD'; omega
      · have := e3 D hD; have := e2 D hD'; omega
      · exact hij rfl
    · have := eR i _ h; omega
    · rintro ⟨_, m22⟩ ⟨rfl, hl22, hf22⟩
      simp only at hl22 hf22 ⊢
      have hbx : ∀ (p : Nat) o, (m14 ++ [MObj.live (slr 3 R nn)])[p]? = some o → p < m3.length → m22[p]? = some o := fun p o ho hp => by
        rw [hf22 p (get_lt ho) fun j _ h => by have := eR j _ h; omega]; exact ho
      have hv15 := hv14.grow (Gr.app m14 [.live (slr 3 R nn)])
      have hA : Lent m22 x d e n0 v := ⟨hv.xd, hv.xe, hv.de, hbx _ _ hv15.x_ xl, hbx _ _ hv15.d_ dl, hbx _ _ hv15.e_ el⟩
      have k3 := kept_is k hA hk0 (by omega)
      simp (disch := omega) only [Option.bind_some, Option.map_some, cond_true, cond_false, wrap_i64, tmod_pos, tdiv_pos, inRange_yes, inUpto_yes, isZero_no, decide_eq_true, decide_eq_false, Bool.not_true, Bool.not_false, Int.toNat_natCast, Nat.mul_one, beqI_yes, beqI_no, bneI_yes, bneI_no, isNil_nil, isNil_iface, wr_wr, Option.isNone_none, Option.isNone_some, plus, Nat.zero_add, Nat.add_zero, k3]
      exact .some rfl
  obtain ⟨⟨r, m'⟩, h1, h2⟩ := key
  exact ⟨m', by rw [h1]; simp only at h2; rw [h2]⟩
end Go.Proofs.Ytmfmoanjecjeeaa
