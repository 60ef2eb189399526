/- The document's frame: a page is laid. -/
import Derived.Test.YtmfmoanjecjeeaaFr2
import Derived.Test.YtmfmoanjecjeeaaFpatinaref06
set_option linter.unusedVariables false
set_option linter.unusedSectionVars false
set_option linter.unusedSimpArgs false
namespace Go.Proofs.Ytmfmoanjecjeeaa
open Go.Mx

theorem mark_cells : [Value.int .u8 112, .int .u8 97, .int .u8 116, .int .u8 105, .int .u8 110, .int .u8 97, .int .u8 48, .int .u8 49] = bys 8 mrk := by kernel_rfl
theorem refSealed_ok (k : Nat) {m : Mem} {a : Option Addr} {c : Nat} {w : Nat → GF} (hw : Src m a 50 w) :
    Ok (patinaref03_Sealed k a 50 c m) fun r => ∃ d, r.1 = ⟨some ⟨d, 0, some 1⟩, 58, 58⟩ ∧ Gr m r.2 ∧ m.length ≤ d ∧ r.2[d]? = some (.live (bys 58 (sealed w))) := by
  unfold patinaref03_Sealed patinaref03_Mark
  have e1 : rdSl m a 50 1 = some (bys 50 w) := hw
  have e2 : appM 1 1 m none 0 0 50 (bys 50 w) = some (⟨some ⟨m.length, 0, some 1⟩, 50, 50⟩, m ++ [.live (bys 50 w)]) := appM_first (by omega) (by unfold most; omega) (by unfold most; omega)
  have l1 : (m ++ [MObj.live (bys 50 w)]).length = m.length + 1 := by simp
  have d1 := get_grow (g := [.live (bys 8 mrk)]) (get_last (m := m) (o := .live (bys 50 w)) rfl)
  have e3 : rdSl ((m ++ [MObj.live (bys 50 w)]) ++ [.live (bys 8 mrk)]) (some ⟨m.length + 1, 0, none⟩) 8 1 = some (bys 8 mrk) := Src.of (sp := none) (get_last l1)
  have e4 : appM 1 1 ((m ++ [MObj.live (bys 50 w)]) ++ [.live (bys 8 mrk)]) (some ⟨m.length, 0, some 1⟩) 50 50 8 (bys 8 mrk) = some (⟨some ⟨((m ++ [MObj.live (bys 50 w)]) ++ [MObj.live (bys 8 mrk)]).length, 0, some 1⟩, 50 + 8, 50 + 8⟩, ((m ++ [MObj.live (bys 50 w)]) ++ [MObj.live (bys 8 mrk)]).set m.length .dead ++ [.live (bys 50 w ++ bys 8 mrk)]) :=
    appM_grow d1 (by rw [bys_len]) (by omega) (by unfold most; omega) (by unfold most; omega)
  have hs : bys 50 w ++ bys 8 mrk = bys 58 (sealed w) := bys_append
  rw [hs] at e4
  simp (disch := omega) only [Option.bind_some, Option.map_some, cond_true, cond_false, wrap_i64, tmod_pos, tdiv_pos, inRange_yes, inUpto_yes, isZero_no, decide_eq_true, decide_eq_false, Bool.not_true, Bool.not_false, Int.toNat_natCast, Nat.mul_one, beqI_yes, beqI_no, bneI_yes, bneI_no, isNil_nil, isNil_iface, wr_wr, Option.isNone_none, Option.isNone_some, plus, Nat.zero_add, Nat.add_zero, e1, e2, mark_cells, l1, e3, e4]
  have g1 : Gr m (((m ++ [MObj.live (bys 50 w)]) ++ [MObj.live (bys 8 mrk)]).set m.length .dead) := (((Gr.app m _).trans (Gr.app _ _))).kill (Nat.le_refl _) _
  exact .some ⟨_, rfl, g1.trans (Gr.app _ _), by simp, get_last (by simp)⟩

theorem refLay_no (k : Nat) {m : Mem} {a b : Option Addr} {n1 n2 ca cb : Nat} (h : ¬ (n1 = 174 ∧ n2 = 50)) : patinaref06_Lay k a n1 ca b n2 cb m = some (⟨none, 0, 0⟩, false, m) := by
  unfold patinaref06_Lay
  by_cases h1 : n1 = 174
  · subst h1
    have e1 : (((174 : Nat) : Int) != 174) = false := rfl
    have e2 : (((n2 : Nat) : Int) != 50) = true := bneI_yes (by omega)
    simp (disch := omega) only [Option.bind_some, Option.map_some, cond_true, cond_false, wrap_i64, tmod_pos, tdiv_pos, inRange_yes, inUpto_yes, isZero_no, decide_eq_true, decide_eq_false, Bool.not_true, Bool.not_false, Int.toNat_natCast, Nat.mul_one, beqI_yes, beqI_no, bneI_yes, bneI_no, isNil_nil, isNil_iface, wr_wr, Option.isNone_none, Option.isNone_some, plus, Nat.zero_add, Nat.add_zero, e1, e2]
  · have e1 : (((n1 : Nat) : Int) != 174) = true := bneI_yes (by omega)
    simp (disch := omega) only [Option.bind_some, Option.map_some, cond_true, cond_false, wrap_i64, tmod_pos, tdiv_pos, inRange_yes, inUpto_yes, isZero_no, decide_eq_true, decide_eq_false, Bool.not_true, Bool.not_false, Int.toNat_natCast, Nat.mul_one, beqI_yes, beqI_no, bneI_yes, bneI_no, isNil_nil, isNil_iface, wr_wr, Option.isNone_none, Option.isNone_some, plus, Nat.zero_add, Nat.add_zero, e1]

/-- where the loop over the messages stands -/
structure RlI (m : Mem) (w u : Nat → GF) (i : Nat) (M : Mem) (out : Option Addr) (D : Nat → Nat) : Prop where
  gr : Gr m M
  row : Rw m.length M out i D 64 (some 1)
  D_ : ∀ j, j < i → m.length ≤ D j ∧ M[D j]? = some (.live (bys 64 (GF.cw gC (msgs w u j)))) ∧ ∀ q, out = some ⟨q, 0, some 1⟩ → D j ≠ q
theorem RlI.next {m M M2 M4 : Mem} {w u : Nat → GF} {i d : Nat} {out : Option Addr} {D : Nat → Nat} (hI : RlI m w u i M out D) (hg2 : Gr M M2) (hd0 : M.length ≤ d) (h2 : M2[d]? = some (.live (bys 64 (GF.cw gC (msgs w u i))))) (hi : i < 1000)
    {f : Sl × Mem} (hf : appM 1 24 (M2 ++ [.live [.slice (some ⟨d, 0, some 1⟩) 64 64]]) out i i 1 [.slice (some ⟨d, 0, some 1⟩) 64 64] = some f) :
    f.1.len = i + 1 ∧ f.1.cap = i + 1 ∧ RlI m w u (i + 1) f.2 f.1.a (fun j => if j = i then d else D j) := by
  have hgl := hg2.len
  have hml := hI.gr.len
  have hdl := get_lt h2
  have row2 := (hI.row.grow hg2).grow (Gr.app M2 [.live [.slice (some ⟨d, 0, some 1⟩) 64 64]])
  have hl2' : (M2 ++ [MObj.live [.slice (some ⟨d, 0, some 1⟩) 64 64]]).length = M2.length + 1 := by simp
  obtain ⟨M5, q1, q2, q3, q4, q5⟩ := row2.app (d := d) (by omega) hi
  rw [hl2'] at q1 q2 q3 q4
  rw [q1] at hf
  cases hf
  have outne : ∀ q, out = some ⟨q, 0, some 1⟩ → m.length ≤ q ∧ q < M.length := by
    rintro q rfl
    rcases hI.row with ⟨h, _⟩ | ⟨q', h, h1, h2⟩
    · cases h
    · simp only [Option.some.injEq, Addr.mk.injEq, and_true] at h
      subst h
      exact ⟨h1, get_lt h2⟩
  refine ⟨rfl, rfl, q5 m ((hI.gr.trans hg2).trans (Gr.app _ _)) (Nat.le_refl _), .inr ⟨M2.length + 1, rfl, by omega, q3⟩, fun j hj => ?_⟩
  by_cases h1 : j = i
  · subst h1
    simp only [↓reduceIte]
    refine ⟨by omega, ?_, fun q hq => by cases hq; omega⟩
    rw [q4 _ (by omega) fun q hq => by have := outne q hq; omega, get_app_lt hdl]; exact h2
  · obtain ⟨z1, z2, z3⟩ := hI.D_ j (by omega)
    have z5 := get_lt z2
    simp only [if_neg h1]
    refine ⟨z1, ?_, fun q hq => by cases hq; omega⟩
    rw [q4 _ (by omega) z3, get_app_lt (by omega)]; exact hg2.get z2

theorem refLay_ok (k : Nat) (hk : 1000 < k) {m : Mem} {ad : Addr} {b : Option Addr} {ca cb : Nat} {w u : Nat → GF} (ha : Src m (some ad) 174 w) (hs : okS ad) (hca : 174 ≤ ca) (hb : Src m b 50 u) :
    Ok (patinaref06_Lay k (some ad) 174 ca b 50 cb m) fun r => ∃ q D, r.1 = ⟨some ⟨q, 0, some 1⟩, 4, 4⟩ ∧ r.2.1 = true ∧ Gr m r.2.2 ∧ r.2.2[q]? = some (.live (sls 4 D (fun _ => 64) (some 1))) ∧
      ∀ i, i < 4 → r.2.2[D i]? = some (.live (bys 64 (GF.cw gC (msgs w u i)))) := by
  unfold patinaref06_Lay
  have e1 : (((174 : Nat) : Int) != 174) = false := rfl
  have e2 : (((50 : Nat) : Int) != 50) = false := rfl
  simp (disch := omega) only [Option.bind_some, Option.map_some, cond_true, cond_false, wrap_i64, tmod_pos, tdiv_pos, inRange_yes, inUpto_yes, isZero_no, decide_eq_true, decide_eq_false, Bool.not_true, Bool.not_false, Int.toNat_natCast, Nat.mul_one, beqI_yes, beqI_no, bneI_yes, bneI_no, isNil_nil, isNil_iface, wr_wr, Option.isNone_none, Option.isNone_some, plus, Nat.zero_add, Nat.add_zero, e1, e2]
  refine patinaref06_Lay_l0_rule k _ (fun r x0a x0n x0c x1a x1n x1c x6a x6n x6c x7 M => some ad = x0a ∧ 174 = x0n ∧ ca = x0c ∧ b = x1a ∧ 50 = x1n ∧ cb = x1c ∧ ∃ (i : Nat) (D : Nat → Nat), i = x6n ∧ i = x6c ∧ x7 = i ∧ i + r = 3 ∧ RlI m w u i M x6a D) ?_ k 3 _ _ _ _ _ _ _ _ _ _ _ (by omega)
    ⟨rfl, rfl, rfl, rfl, rfl, rfl, 0, fun _ => 0, rfl, rfl, rfl, rfl, ⟨Gr.refl _, .inl ⟨rfl, rfl⟩, fun j hj => by omega⟩⟩
  rintro r nx _ _ _ _ _ _ out _ _ _ M ⟨rfl, rfl, rfl, rfl, rfl, rfl, i, D, rfl, rfl, rfl, hr, hI⟩ hnx
  unfold patinaref06_Lay_l0_b
  by_cases hi : (i : Int) < 3
  · have w1 : IntKind.wrap .i64 (58 * (i : Int)) = ((i * 58 : Nat) : Int) := by rw [wrap_i64 (by omega) (by omega)]; simp; omega
    have w2 : IntKind.wrap .i64 (((i * 58 : Nat) : Int) + 58) = ((i * 58 + 58 : Nat) : Int) := by rw [wrap_i64 (by omega) (by omega)]; simp
    have u1 : inUpto ((i * 58 + 58 : Nat) : Int) ca = true := inUpto_yes (by omega) (by omega)
    have u2 : inUpto ((i * 58 : Nat) : Int) (i * 58 + 58) = true := inUpto_yes (by omega) (by omega)
    have s1 : i * 58 + 58 - i * 58 = 58 := by omega
    simp only [decide_eq_true hi, cond_true, w1, w2, hs.z, u1, u2, Bool.and_self, Int.toNat_natCast, clear_f, Option.map_some, Nat.mul_one, s1]
    refine .bind (refEncode_ok k hk (c := ca - i * 58) ((ha.grow hI.gr).part (o := i * 58) (l := 58) (by omega))) ?_
    rintro ⟨_, M2⟩ ⟨a', rfl, hg2, ⟨_, h⟩ | ⟨d, rfl, hd0, hd⟩⟩
    · omega
    simp only at hg2 hd ⊢
    have hcw : bys 64 (GF.cw gC fun j => w (i * 58 + j)) = bys 64 (GF.cw gC (msgs w u i)) := bys_congr fun j _ => GF.cw_congr (fun t ht => by
      show w (i * 58 + t) = whole w u (i * 58 + t)
      unfold whole; rw [if_pos (by omega)]) j
    rw [hcw] at hd
    have row2 := (hI.row.grow hg2).grow (Gr.app M2 [.live [.slice (some ⟨d, 0, some 1⟩) 64 64]])
    obtain ⟨M5, q1, _⟩ := row2.app (d := d) (by have := hI.gr.len; have := hg2.len; simp; omega) (by omega)
    obtain ⟨n1, n2, hI2⟩ := hI.next hg2 hd0 hd (by omega) (M4 := M5) q1
    simp only at hI2
    simp (disch := omega) only [Option.bind_some, Option.map_some, cond_true, cond_false, wrap_i64, tmod_pos, tdiv_pos, inRange_yes, inUpto_yes, isZero_no, decide_eq_true, decide_eq_false, Bool.not_true, Bool.not_false, Int.toNat_natCast, Nat.mul_one, beqI_yes, beqI_no, bneI_yes, bneI_no, isNil_nil, isNil_iface, wr_wr, Option.isNone_none, Option.isNone_some, plus, Nat.zero_add, Nat.add_zero, rdSl_new, q1]
    exact hnx (r - 1) _ _ _ _ _ _ _ _ _ _ _ (by omega) ⟨rfl, rfl, rfl, rfl, rfl, rfl, i + 1, _, rfl, rfl, by omega, by omega, hI2⟩
  · obtain rfl : i = 3 := by omega
    rw [decide_eq_false hi, cond_false]
    refine .bind (refSealed_ok k (c := cb) (hb.grow hI.gr)) ?_
    rintro ⟨_, M1⟩ ⟨d1, rfl, hg1, hd1, h1⟩
    simp only at hg1 h1 ⊢
    refine .bind (refEncode_ok k hk (c := 58) (Src.of (sp := some 1) h1)) ?_
    rintro ⟨_, M2⟩ ⟨a', rfl, hg2, ⟨_, h⟩ | ⟨d, rfl, hd0, hd⟩⟩
    · omega
    simp only at hg2 hd ⊢
    have hcw : bys 64 (GF.cw gC (sealed u)) = bys 64 (GF.cw gC (msgs w u 3)) := bys_congr fun j _ => GF.cw_congr (fun t ht => by
      show sealed u t = whole w u (3 * 58 + t)
      unfold whole; rw [if_neg (by omega), show 3 * 58 + t - 174 = t by omega]) j
    rw [hcw] at hd
    have hg12 := hg1.trans hg2
    have row2 := (hI.row.grow hg12).grow (Gr.app M2 [.live [.slice (some ⟨d, 0, some 1⟩) 64 64]])
    obtain ⟨M5, q1, _⟩ := row2.app (d := d) (by have := hI.gr.len; have := hg12.len; simp; omega) (by omega)
    obtain ⟨n1, n2, hI2⟩ := hI.next hg12 (by have := hg1.len; omega) hd (by omega) (M4 := M5) q1
    simp only at hI2
    simp (disch := omega) only [Option.bind_some, Option.map_some, cond_true, cond_false, wrap_i64, tmod_pos, tdiv_pos, inRange_yes, inUpto_yes, isZero_no, decide_eq_true, decide_eq_false, Bool.not_true, Bool.not_false, Int.toNat_natCast, Nat.mul_one, beqI_yes, beqI_no, bneI_yes, bneI_no, isNil_nil, isNil_iface, wr_wr, Option.isNone_none, Option.isNone_some, plus, Nat.zero_add, Nat.add_zero, rdSl_new, q1]
    rcases hI2.row with ⟨h, _⟩ | ⟨q, hq, _, hq2⟩
    · cases h
    exact .some ⟨q, _, by rw [hq], rfl, hI2.gr, hq2, fun i hi => (hI2.D_ i hi).2.1⟩
end Go.Proofs.Ytmfmoanjecjeeaa
