/- The document's frame: a page is read; and pages that may not be. -/
import Derived.Test.YtmfmoanjecjeeaaFr3
import Derived.Test.YtmfmoanjecjeeaaFpatinaref06
set_option linter.unusedVariables false
set_option linter.unusedSectionVars false
set_option linter.unusedSimpArgs false
namespace Go.Proofs.Ytmfmoanjecjeeaa
open Go.Mx

theorem mark_cells7 : [Value.int .u8 112, .int .u8 97, .int .u8 116, .int .u8 105, .int .u8 110, .int .u8 97, .int .u8 48, .int .u8 49] = bys 8 mrk := by kernel_rfl
theorem refMarked_ok (k : Nat) (hk : 1000 < k) {m : Mem} {a : Option Addr} {n c : Nat} {u : Nat → GF} (hu : Src m a n u) (hn : 58 ≤ n) :
    Ok (patinaref03_Marked k a n c m) fun r => Gr m r.2 ∧ (r.1 = true ↔ marked u) := by
  unfold patinaref03_Marked patinaref03_Mark
  simp (disch := omega) only [Option.bind_some, Option.map_some, cond_true, cond_false, wrap_i64, tmod_pos, tdiv_pos, inRange_yes, inUpto_yes, isZero_no, decide_eq_true, decide_eq_false, Bool.not_true, Bool.not_false, Int.toNat_natCast, Nat.mul_one, beqI_yes, beqI_no, bneI_yes, bneI_no, isNil_nil, isNil_iface, wr_wr, Option.isNone_none, Option.isNone_some, plus, Nat.zero_add, Nat.add_zero, mark_cells7]
  have hu1 := hu.grow (Gr.app m [.live (bys 8 mrk)])
  have hm := get_last (m := m) (o := .live (bys 8 mrk)) rfl
  refine patinaref03_Marked_l0_rule k _ _ (fun r x0a x0n x0c x3a x3n x3c x4 M => a = x0a ∧ n = x0n ∧ c = x0c ∧ (some ⟨m.length, 0, none⟩ : Option Addr) = x3a ∧ 8 = x3n ∧ 8 = x3c ∧ m ++ [.live (bys 8 mrk)] = M ∧ ∃ j : Nat, x4 = j ∧ j + r = 8 ∧ ∀ i, i < j → u (50 + i) = mrk i) ?_ k 8 _ _ _ _ _ _ _ _ (by omega)
    ⟨rfl, rfl, rfl, rfl, rfl, rfl, rfl, 0, rfl, by omega, fun i hi => by omega⟩
  rintro r nx _ _ _ _ _ _ _ _ ⟨rfl, rfl, rfl, rfl, rfl, rfl, rfl, j, rfl, hr, hw⟩ hnx
  unfold patinaref03_Marked_l0_b
  by_cases hj : (j : Int) < 8
  · obtain ⟨ad, rfl, e1⟩ := hu1.ld (i := 50 + j) (by omega)
    unfold plus at e1
    have e2 := bys_ld (sp := none) hm (i := j) (by omega)
    have w1 : (50 : Int) + (j : Int) = ((50 + j : Nat) : Int) := by omega
    have w2 : IntKind.wrap .i64 ((50 : Int) + (j : Int)) = ((50 + j : Nat) : Int) := by rw [w1, wrap_i64 (by omega) (by omega)]
    have i1 : inRange ((50 + j : Nat) : Int) n = true := inRange_yes (by omega) (by omega)
    simp (disch := omega) only [Option.bind_some, Option.map_some, cond_true, cond_false, wrap_i64, tmod_pos, tdiv_pos, inRange_yes, inUpto_yes, isZero_no, decide_eq_true, decide_eq_false, Bool.not_true, Bool.not_false, Int.toNat_natCast, Nat.mul_one, beqI_yes, beqI_no, bneI_yes, bneI_no, isNil_nil, isNil_iface, wr_wr, Option.isNone_none, Option.isNone_some, plus, Nat.zero_add, Nat.add_zero, w2, i1, e1, e2, v_bne]
    by_cases h1 : u (50 + j) = mrk j
    · rw [decide_eq_true h1]
      simp (disch := omega) only [Option.bind_some, Option.map_some, cond_true, cond_false, wrap_i64, tmod_pos, tdiv_pos, inRange_yes, inUpto_yes, isZero_no, decide_eq_true, decide_eq_false, Bool.not_true, Bool.not_false, Int.toNat_natCast, Nat.mul_one, beqI_yes, beqI_no, bneI_yes, bneI_no, isNil_nil, isNil_iface, wr_wr, Option.isNone_none, Option.isNone_some, plus, Nat.zero_add, Nat.add_zero]
      refine hnx (r - 1) _ _ _ _ _ _ _ _ (by omega) ⟨rfl, rfl, rfl, rfl, rfl, rfl, rfl, j + 1, by omega, by omega, fun i hi => ?_⟩
      by_cases h2 : i = j
      · rw [h2]; exact h1
      · exact hw i (by omega)
    · rw [decide_eq_false h1]
      simp (disch := omega) only [Option.bind_some, Option.map_some, cond_true, cond_false, wrap_i64, tmod_pos, tdiv_pos, inRange_yes, inUpto_yes, isZero_no, decide_eq_true, decide_eq_false, Bool.not_true, Bool.not_false, Int.toNat_natCast, Nat.mul_one, beqI_yes, beqI_no, bneI_yes, bneI_no, isNil_nil, isNil_iface, wr_wr, Option.isNone_none, Option.isNone_some, plus, Nat.zero_add, Nat.add_zero]
      exact .some ⟨Gr.app _ _, ⟨fun h => (by cases h), fun h => absurd (h j (by omega)) h1⟩⟩
  · obtain rfl : j = 8 := by omega
    simp (disch := omega) only [Option.bind_some, Option.map_some, cond_true, cond_false, wrap_i64, tmod_pos, tdiv_pos, inRange_yes, inUpto_yes, isZero_no, decide_eq_true, decide_eq_false, Bool.not_true, Bool.not_false, Int.toNat_natCast, Nat.mul_one, beqI_yes, beqI_no, bneI_yes, bneI_no, isNil_nil, isNil_iface, wr_wr, Option.isNone_none, Option.isNone_some, plus, Nat.zero_add, Nat.add_zero]
    exact .some ⟨Gr.app _ _, ⟨fun _ => hw, fun _ => rfl⟩⟩

theorem refMessage_no (k : Nat) {m : Mem} {a : Option Addr} {n ca : Nat} {p : Int} (h : ¬ (n = 256 ∧ 0 ≤ p ∧ p ≤ 3)) : patinaref06_Message k a n ca p m = some (⟨none, 0, 0⟩, 0, 1, m) := by
  unfold patinaref06_Message
  by_cases h1 : n = 256
  · subst h1
    have e1 : (((256 : Nat) : Int) != 256) = false := rfl
    rw [e1, cond_false]
    by_cases h2 : p < 0
    · rw [decide_eq_true h2, cond_true]
    · rw [decide_eq_false h2, cond_false, decide_eq_true (show p > 3 by omega), cond_true]
  · have e1 : (((n : Nat) : Int) != 256) = true := bneI_yes (by omega)
    rw [e1, cond_true]

section
variable (k : Nat) (hk : 1000 < k) {m : Mem} {ad : Addr} {ca : Nat} {w : Nat → GF} (hw : Src m (some ad) 256 w) (hs : okS ad) (hca : 256 ≤ ca)
include hk hw hs hca

theorem refMessage_ok {i : Nat} (hi : i < 4) :
    Ok (patinaref06_Message k (some ad) 256 ca i m) fun r => Gr m r.2.2.2 ∧ ((∃ u n d, GF.dec (wd w i) = some (u, n) ∧ r.1 = ⟨some ⟨d, 0, some 1⟩, 58, 64⟩ ∧ r.2.1 = (n : Nat) ∧ r.2.2.1 = 0 ∧ m.length ≤ d ∧ ∃ u', r.2.2.2[d]? = some (.live (bys 64 u')) ∧ ∀ i, i < 64 → u' i = u i) ∨
      (GF.dec (wd w i) = none ∧ r.1 = ⟨none, 0, 0⟩ ∧ r.2.1 = 0 ∧ r.2.2.1 = 5)) := by
  unfold patinaref06_Message
  have e1 : (((256 : Nat) : Int) != 256) = false := rfl
  have w1 : IntKind.wrap .i64 (64 * (i : Int)) = ((i * 64 : Nat) : Int) := by rw [wrap_i64 (by omega) (by omega)]; simp; omega
  have w3 : IntKind.wrap .i64 (((i * 64 : Nat) : Int) + 64) = ((i * 64 + 64 : Nat) : Int) := by
    rw [wrap_i64 (by omega) (by omega)]; omega
  have u1 : inUpto ((i * 64 + 64 : Nat) : Int) ca = true := inUpto_yes (by omega) (by omega)
  have u2 : inUpto ((i * 64 : Nat) : Int) (i * 64 + 64) = true := inUpto_yes (by omega) (by omega)
  simp only [e1, cond_false, decide_eq_false (show ¬ (i : Int) < 0 by omega), decide_eq_false (show ¬ (i : Int) > 3 by omega), w1, w3, hs.z, u1, u2, Bool.and_self, cond_true, Int.toNat_natCast, Nat.mul_one, clear_f, Option.map_some]
  rw [show i * 64 + 64 - i * 64 = 64 by omega]
  refine .bind (refDecode_ok k hk (c := ca - i * 64) (hw.part (o := i * 64) (l := 64) (by omega))) ?_
  rintro ⟨_, _, _, m1⟩ ⟨hg, ⟨u, n, d, h1, rfl, rfl, rfl, h2, h3⟩ | ⟨h1, rfl⟩⟩
  · simp (disch := omega) only [Option.bind_some, Option.map_some, cond_true, cond_false, wrap_i64, tmod_pos, tdiv_pos, inRange_yes, inUpto_yes, isZero_no, decide_eq_true, decide_eq_false, Bool.not_true, Bool.not_false, Int.toNat_natCast, Nat.mul_one, beqI_yes, beqI_no, bneI_yes, bneI_no, isNil_nil, isNil_iface, wr_wr, Option.isNone_none, Option.isNone_some, plus, Nat.zero_add, Nat.add_zero]
    exact .some ⟨hg, .inl ⟨u, n, d, h1, rfl, rfl, rfl, h2, h3⟩⟩
  · simp (disch := omega) only [Option.bind_some, Option.map_some, cond_true, cond_false, wrap_i64, tmod_pos, tdiv_pos, inRange_yes, inUpto_yes, isZero_no, decide_eq_true, decide_eq_false, Bool.not_true, Bool.not_false, Int.toNat_natCast, Nat.mul_one, beqI_yes, beqI_no, bneI_yes, bneI_no, isNil_nil, isNil_iface, wr_wr, Option.isNone_none, Option.isNone_some, plus, Nat.zero_add, Nat.add_zero]
    exact .some ⟨hg, .inr ⟨h1, rfl, rfl, rfl⟩⟩

theorem refBody_ok : Ok (patinaref06_Body k (some ad) 256 ca m) fun r => Gr m r.2.2.2 ∧ ((∃ u n d, GF.dec (wd w 3) = some (u, n) ∧ marked u ∧ r.1 = ⟨some ⟨d, 0, some 1⟩, 50, 64⟩ ∧ r.2.1 = (n : Nat) ∧ r.2.2.1 = 0 ∧ Src r.2.2.2 (some ⟨d, 0, some 1⟩) 50 u) ∨
      (∃ u n, GF.dec (wd w 3) = some (u, n) ∧ ¬ marked u ∧ r.1 = ⟨none, 0, 0⟩ ∧ r.2.1 = 0 ∧ r.2.2.1 = 6) ∨ (GF.dec (wd w 3) = none ∧ r.1 = ⟨none, 0, 0⟩ ∧ r.2.1 = 0 ∧ r.2.2.1 = 5)) := by
  unfold patinaref06_Body
  refine .bind (refMessage_ok k hk hw hs hca (i := 3) (by omega)) ?_
  rintro ⟨_, _, _, m1⟩ ⟨hg, ⟨u, n, d, h1, rfl, rfl, rfl, h2, u', h3, h4⟩ | ⟨h1, rfl, rfl, rfl⟩⟩
  · have n0 : ((0 : Int) != 0) = false := rfl
    simp only at hg h3 ⊢
    simp (disch := omega) only [Option.bind_some, Option.map_some, cond_true, cond_false, wrap_i64, tmod_pos, tdiv_pos, inRange_yes, inUpto_yes, isZero_no, decide_eq_true, decide_eq_false, Bool.not_true, Bool.not_false, Int.toNat_natCast, Nat.mul_one, beqI_yes, beqI_no, bneI_yes, bneI_no, isNil_nil, isNil_iface, wr_wr, Option.isNone_none, Option.isNone_some, plus, Nat.zero_add, Nat.add_zero, n0]
    refine .bind (refMarked_ok k hk (c := 64) (Src.take (sp := some 1) h3 (l := 58) (by omega)) (by omega)) ?_
    rintro ⟨z, m2⟩ ⟨hg2, hz⟩
    simp only at hg2 hz ⊢
    have hmk : marked u' ↔ marked u := by
      unfold marked
      constructor
      · intro h i hi; rw [← h4 _ (by omega)]; exact h i hi
      · intro h i hi; rw [h4 _ (by omega)]; exact h i hi
    cases z with
    | true =>
      have i50 : inUpto 50 64 = true := rfl
      simp (disch := omega) only [Option.bind_some, Option.map_some, cond_true, cond_false, wrap_i64, tmod_pos, tdiv_pos, inRange_yes, inUpto_yes, isZero_no, decide_eq_true, decide_eq_false, Bool.not_true, Bool.not_false, Int.toNat_natCast, Nat.mul_one, beqI_yes, beqI_no, bneI_yes, bneI_no, isNil_nil, isNil_iface, wr_wr, Option.isNone_none, Option.isNone_some, plus, Nat.zero_add, Nat.add_zero, i50, clear_f]
      exact .some ⟨hg.trans hg2, .inl ⟨u, n, d, h1, hmk.1 (hz.1 rfl), rfl, rfl, rfl, (Src.take (sp := some 1) (hg2.get h3) (l := 50) (by omega)).congr fun i hi => (h4 i (by omega)).symm⟩⟩
    | false =>
      simp (disch := omega) only [Option.bind_some, Option.map_some, cond_true, cond_false, wrap_i64, tmod_pos, tdiv_pos, inRange_yes, inUpto_yes, isZero_no, decide_eq_true, decide_eq_false, Bool.not_true, Bool.not_false, Int.toNat_natCast, Nat.mul_one, beqI_yes, beqI_no, bneI_yes, bneI_no, isNil_nil, isNil_iface, wr_wr, Option.isNone_none, Option.isNone_some, plus, Nat.zero_add, Nat.add_zero]
      exact .some ⟨hg.trans hg2, .inr (.inl ⟨u, n, h1, fun h => (by have := hz.2 (hmk.2 h); cases this), rfl, rfl, rfl⟩)⟩
  · have n5 : ((5 : Int) != 0) = true := rfl
    simp (disch := omega) only [Option.bind_some, Option.map_some, cond_true, cond_false, wrap_i64, tmod_pos, tdiv_pos, inRange_yes, inUpto_yes, isZero_no, decide_eq_true, decide_eq_false, Bool.not_true, Bool.not_false, Int.toNat_natCast, Nat.mul_one, beqI_yes, beqI_no, bneI_yes, bneI_no, isNil_nil, isNil_iface, wr_wr, Option.isNone_none, Option.isNone_some, plus, Nat.zero_add, Nat.add_zero, n5]
    exact .some ⟨hg, .inr (.inr ⟨h1, rfl, rfl, rfl⟩)⟩

/-- where its loop stands -/
structure RdI (m M : Mem) (w : Nat → GF) (i : Nat) (out : Option Addr) (U : Nat → Nat → GF) (N : Nat → Nat) : Prop where
  gr : Gr m M
  out_ : Ac m.length M out (i * 58) fun j => U (j / 58) (j % 58)
  dec_ : ∀ j, j < i → GF.dec (wd w j) = some (U j, N j)

theorem refData_ok : Ok (patinaref06_Data k (some ad) 256 ca m) fun r => Gr m r.2.2.2 ∧ ((∃ (U : Nat → Nat → GF) (N : Nat → Nat), (∀ j, j < 3 → GF.dec (wd w j) = some (U j, N j)) ∧ r.1.len = 174 ∧ r.2.1 = (mxN N 3 : Nat) ∧ r.2.2.1 = 0 ∧ Src r.2.2.2 r.1.a 174 fun j => U (j / 58) (j % 58)) ∨
      (∃ j, j < 3 ∧ GF.dec (wd w j) = none ∧ r.1 = ⟨none, 0, 0⟩ ∧ r.2.1 = 0 ∧ r.2.2.1 = 5)) := by
  unfold patinaref06_Data
  refine patinaref06_Data_l0_rule k _ _ (fun r x0a x0n x0c x5a x5n x5c x6 x7 M => some ad = x0a ∧ 256 = x0n ∧ ca = x0c ∧ ∃ (i : Nat) (U : Nat → Nat → GF) (N : Nat → Nat), x7 = i ∧ i + r = 3 ∧ i * 58 = x5n ∧ i * 58 = x5c ∧ (mxN N i : Nat) = x6 ∧ RdI m M w i x5a U N) ?_ k 3 _ _ _ _ _ _ _ _ _ (by omega)
    ⟨rfl, rfl, rfl, 0, fun _ _ => 0, fun _ => 0, rfl, rfl, rfl, rfl, rfl, ⟨Gr.refl _, .nil _ _ _, fun j hj => by omega⟩⟩
  rintro r nx _ _ _ out _ _ _ _ M ⟨rfl, rfl, rfl, i, U, N, rfl, hr, rfl, rfl, rfl, hI⟩ hnx
  unfold patinaref06_Data_l0_b
  by_cases hi : (i : Int) < 3
  · rw [decide_eq_true hi, cond_true]
    refine .bind (refMessage_ok k hk (hw.grow hI.gr) hs hca (i := i) (by omega)) ?_
    rintro ⟨_, _, _, m1⟩ ⟨hg, ⟨u, n, d, h1, rfl, rfl, rfl, h2, u', h3, h4⟩ | ⟨h1, rfl, rfl, rfl⟩⟩
    · simp only at hg h3 ⊢
      have n0 : ((0 : Int) != 0) = false := rfl
      have e4 : rdSl m1 (some ⟨d, 0, some 1⟩) 58 1 = some (bys 58 u) := (Src.take (sp := some 1) h3 (l := 58) (by omega)).congr fun i hi => (h4 i (by omega)).symm
      have hA := hI.out_.keep (m' := m1) fun p o _ ho => hg.get ho
      have hgl := hg.len
      have hml := hI.gr.len
      obtain ⟨M3, q1, q2, q3, q4, q5, q6⟩ := hA.app (u := u) (l := 58) (by omega) (by omega) (by unfold most; omega)
      have dec' : ∀ j, j < i + 1 → GF.dec (wd w j) = some ((if j = i then u else U j), if j = i then n else N j) := fun j hj => by
        by_cases h5 : j = i
        · subst h5; simp only [↓reduceIte]; exact h1
        · simp only [if_neg h5]; exact hI.dec_ j (by omega)
      have mx' : mxN (fun j => if j = i then n else N j) (i + 1) = max (mxN N i) n := by
        have key : ∀ l, l ≤ i → mxN (fun j => if j = i then n else N j) l = mxN N l := by
          intro l
          induction l with
          | zero => intro _; rfl
          | succ l ih => intro h; simp only [mxN, ih (by omega), if_neg (show ¬ l = i by omega)]
        simp only [mxN, key i (Nat.le_refl _), if_true]
      have I' : RdI m M3 w (i + 1) (some ⟨m1.length, 0, some 1⟩) (fun j => if j = i then u else U j) (fun j => if j = i then n else N j) := by
        refine ⟨q6 m (hI.gr.trans hg) (Nat.le_refl _), ?_, dec'⟩
        rw [show (i + 1) * 58 = i * 58 + 58 by omega]
        refine q2.congr fun j hj => ?_
        by_cases h5 : j < i * 58
        · rw [if_pos h5, if_neg (by omega)]
        · rw [if_neg h5, if_pos (by omega), show j % 58 = j - i * 58 by omega]
      have s58 : i * 58 + 58 = (i + 1) * 58 := by omega
      by_cases hgt : (n : Int) > ((mxN N i : Nat) : Int)
      · simp (disch := omega) only [Option.bind_some, Option.map_some, cond_true, cond_false, wrap_i64, tmod_pos, tdiv_pos, inRange_yes, inUpto_yes, isZero_no, decide_eq_true, decide_eq_false, Bool.not_true, Bool.not_false, Int.toNat_natCast, Nat.mul_one, beqI_yes, beqI_no, bneI_yes, bneI_no, isNil_nil, isNil_iface, wr_wr, Option.isNone_none, Option.isNone_some, plus, Nat.zero_add, Nat.add_zero, n0, e4, q1]
        unfold patinaref06_Data_j1
        simp (disch := omega) only [Option.bind_some, Option.map_some, cond_true, cond_false, wrap_i64, tmod_pos, tdiv_pos, inRange_yes, inUpto_yes, isZero_no, decide_eq_true, decide_eq_false, Bool.not_true, Bool.not_false, Int.toNat_natCast, Nat.mul_one, beqI_yes, beqI_no, bneI_yes, bneI_no, isNil_nil, isNil_iface, wr_wr, Option.isNone_none, Option.isNone_some, plus, Nat.zero_add, Nat.add_zero]
        exact hnx (r - 1) _ _ _ _ _ _ _ _ _ (by omega) ⟨rfl, rfl, rfl, i + 1, _, _, by omega, by omega, by omega, by omega, by rw [mx']; omega, I'⟩
      · simp (disch := omega) only [Option.bind_some, Option.map_some, cond_true, cond_false, wrap_i64, tmod_pos, tdiv_pos, inRange_yes, inUpto_yes, isZero_no, decide_eq_true, decide_eq_false, Bool.not_true, Bool.not_false, Int.toNat_natCast, Nat.mul_one, beqI_yes, beqI_no, bneI_yes, bneI_no, isNil_nil, isNil_iface, wr_wr, Option.isNone_none, Option.isNone_some, plus, Nat.zero_add, Nat.add_zero, n0, e4, q1]
        unfold patinaref06_Data_j1
        simp (disch := omega) only [Option.bind_some, Option.map_some, cond_true, cond_false, wrap_i64, tmod_pos, tdiv_pos, inRange_yes, inUpto_yes, isZero_no, decide_eq_true, decide_eq_false, Bool.not_true, Bool.not_false, Int.toNat_natCast, Nat.mul_one, beqI_yes, beqI_no, bneI_yes, bneI_no, isNil_nil, isNil_iface, wr_wr, Option.isNone_none, Option.isNone_some, plus, Nat.zero_add, Nat.add_zero]
        exact hnx (r - 1) _ _ _ _ _ _ _ _ _ (by omega) ⟨rfl, rfl, rfl, i + 1, _, _, by omega, by omega, by omega, by omega, by rw [mx']; omega, I'⟩
    · have n5 : ((5 : Int) != 0) = true := rfl
      simp (disch := omega) only [Option.bind_some, Option.map_some, cond_true, cond_false, wrap_i64, tmod_pos, tdiv_pos, inRange_yes, inUpto_yes, isZero_no, decide_eq_true, decide_eq_false, Bool.not_true, Bool.not_false, Int.toNat_natCast, Nat.mul_one, beqI_yes, beqI_no, bneI_yes, bneI_no, isNil_nil, isNil_iface, wr_wr, Option.isNone_none, Option.isNone_some, plus, Nat.zero_add, Nat.add_zero, n5]
      exact .some ⟨hI.gr.trans hg, .inr ⟨i, by omega, h1, rfl, rfl, rfl⟩⟩
  · obtain rfl : i = 3 := by omega
    simp (disch := omega) only [Option.bind_some, Option.map_some, cond_true, cond_false, wrap_i64, tmod_pos, tdiv_pos, inRange_yes, inUpto_yes, isZero_no, decide_eq_true, decide_eq_false, Bool.not_true, Bool.not_false, Int.toNat_natCast, Nat.mul_one, beqI_yes, beqI_no, bneI_yes, bneI_no, isNil_nil, isNil_iface, wr_wr, Option.isNone_none, Option.isNone_some, plus, Nat.zero_add, Nat.add_zero]
    exact .some ⟨hI.gr, .inl ⟨U, N, hI.dec_, rfl, rfl, rfl, hI.out_.src⟩⟩
end

theorem refBody_no (k : Nat) {m : Mem} {a : Option Addr} {n ca : Nat} (h : n ≠ 256) : patinaref06_Body k a n ca m = some (⟨none, 0, 0⟩, 0, 1, m) := by
  unfold patinaref06_Body
  rw [refMessage_no k (fun h2 => h h2.1)]
  rfl
theorem refData_no (k : Nat) (hk : 1000 < k) {m : Mem} {a : Option Addr} {n ca : Nat} (h : n ≠ 256) : patinaref06_Data k a n ca m = some (⟨none, 0, 0⟩, 0, 1, m) := by
  unfold patinaref06_Data
  obtain ⟨k', rfl⟩ : ∃ k', k = k' + 1 := ⟨k - 1, by omega⟩
  unfold patinaref06_Data_l0 patinaref06_Data_l0_b
  rw [refMessage_no _ (fun h2 => h h2.1)]
  rfl
theorem body_no (k : Nat) {m : Mem} {c : Option Addr} {a : Option Addr} {n ca : Nat} (h : n ≠ 256) : frame_Frame_Body k c a n ca m = some (⟨none, 0, 0⟩, 0, errC 1, m) := by
  unfold frame_Frame_Body
  rw [message_no k (fun h2 => h h2.1)]
  rfl
theorem data_no (k : Nat) {m : Mem} {c : Nat} {a : Option Addr} {n ca : Nat} (h : n ≠ 256) : Ok (frame_Frame_Data k (some ⟨c, 0, none⟩) a n ca m) fun r => r.1 = ⟨none, 0, 0⟩ ∧ r.2.1 = 0 ∧ r.2.2.1 = errC 1 ∧ Gr m r.2.2.2 := by
  unfold frame_Frame_Data
  have e1 : (((n : Nat) : Int) != 256) = true := bneI_yes (by omega)
  have l1 : (m ++ [MObj.live [Value.pointer (some ⟨c, 0, none⟩)]]).length = m.length + 1 := by simp
  have l2 : ((m ++ [MObj.live [Value.pointer (some ⟨c, 0, none⟩)]]) ++ [MObj.live [.slice none 0 0]]).length = m.length + 2 := by simp
  have l3 : (((m ++ [MObj.live [Value.pointer (some ⟨c, 0, none⟩)]]) ++ [MObj.live [.slice none 0 0]]) ++ [MObj.live [.int .i64 0]]).length = m.length + 3 := by simp
  have g4 := ((((Gr.app m [.live [Value.pointer (some ⟨c, 0, none⟩)]]).trans (Gr.app _ [.live [.slice none 0 0]])).trans (Gr.app _ [.live [.int .i64 0]])).trans (Gr.app _ [.live [.nilIface]]))
  have x4 : ((((m ++ [MObj.live [Value.pointer (some ⟨c, 0, none⟩)]]) ++ [MObj.live [.slice none 0 0]]) ++ [MObj.live [.int .i64 0]]) ++ [MObj.live [.nilIface]])[m.length + 1]? = some (.live [.slice none 0 0]) := get_grow (get_grow (get_last (by simp)))
  have x5 : ((((m ++ [MObj.live [Value.pointer (some ⟨c, 0, none⟩)]]) ++ [MObj.live [.slice none 0 0]]) ++ [MObj.live [.int .i64 0]]) ++ [MObj.live [.nilIface]])[m.length + 2]? = some (.live [.int .i64 0]) := get_grow (get_last (by simp))
  have x6 : ((((m ++ [MObj.live [Value.pointer (some ⟨c, 0, none⟩)]]) ++ [MObj.live [.slice none 0 0]]) ++ [MObj.live [.int .i64 0]]) ++ [MObj.live [.nilIface]])[m.length + 3]? = some (.live [.nilIface]) := get_last (by simp)
  simp (disch := omega) only [Option.bind_some, Option.map_some, cond_true, cond_false, wrap_i64, tmod_pos, tdiv_pos, inRange_yes, inUpto_yes, isZero_no, decide_eq_true, decide_eq_false, Bool.not_true, Bool.not_false, Int.toNat_natCast, Nat.mul_one, beqI_yes, beqI_no, bneI_yes, bneI_no, isNil_nil, isNil_iface, wr_wr, Option.isNone_none, Option.isNone_some, plus, Nat.zero_add, Nat.add_zero, l1, l2, l3, e1]
  generalize (((m ++ [MObj.live [Value.pointer (some ⟨c, 0, none⟩)]]) ++ [MObj.live [.slice none 0 0]]) ++ [MObj.live [.int .i64 0]]) ++ [MObj.live [.nilIface]] = M at *
  have f4 := st_wr (sp := none) (off := 0) (v := .slice none 0 0) x4 (by simp)
  have y5 : (wr M (m.length + 1) (([.slice none 0 0] : List Value).set 0 (.slice none 0 0)))[m.length + 2]? = some (.live [.int .i64 0]) := by rw [wr_ne (by omega)]; exact x5
  have f5 := st_wr (sp := none) (off := 0) (v := .int .i64 0) y5 (by simp)
  have y6 : (wr (wr M (m.length + 1) (([.slice none 0 0] : List Value).set 0 (.slice none 0 0))) (m.length + 2) (([.int .i64 0] : List Value).set 0 (.int .i64 0)))[m.length + 3]? = some (.live [.nilIface]) := by rw [wr_ne (by omega), wr_ne (by omega)]; exact x6
  have f6 := st_wr (sp := none) (off := 0) (v := errC 1) y6 (by simp)
  rw [errC_pos (by omega)] at f6
  have g1 := ldSl_of (m := wr (wr (wr M (m.length + 1) (([.slice none 0 0] : List Value).set 0 (.slice none 0 0))) (m.length + 2) (([.int .i64 0] : List Value).set 0 (.int .i64 0))) (m.length + 3) (([.nilIface] : List Value).set 0 (.iface ty_api_Code (.int .i64 1)))) (b := m.length + 1) (off := 0) (sp := none) (cs := [.slice none 0 0]) (by rw [wr_ne (by omega), wr_ne (by omega)]; exact wr_get x4) rfl
  have g2 := ldInt_of (m := wr (wr (wr M (m.length + 1) (([.slice none 0 0] : List Value).set 0 (.slice none 0 0))) (m.length + 2) (([.int .i64 0] : List Value).set 0 (.int .i64 0))) (m.length + 3) (([.nilIface] : List Value).set 0 (.iface ty_api_Code (.int .i64 1)))) (b := m.length + 2) (off := 0) (sp := none) (cs := [.int .i64 0]) (by rw [wr_ne (by omega)]; exact wr_get y5) rfl
  have g3 := ldVal_of (m := wr (wr (wr M (m.length + 1) (([.slice none 0 0] : List Value).set 0 (.slice none 0 0))) (m.length + 2) (([.int .i64 0] : List Value).set 0 (.int .i64 0))) (m.length + 3) (([.nilIface] : List Value).set 0 (.iface ty_api_Code (.int .i64 1)))) (b := m.length + 3) (off := 0) (sp := none) (cs := [.iface ty_api_Code (.int .i64 1)]) (wr_get y6) rfl
  simp (disch := omega) only [Option.bind_some, Option.map_some, cond_true, cond_false, wrap_i64, tmod_pos, tdiv_pos, inRange_yes, inUpto_yes, isZero_no, decide_eq_true, decide_eq_false, Bool.not_true, Bool.not_false, Int.toNat_natCast, Nat.mul_one, beqI_yes, beqI_no, bneI_yes, bneI_no, isNil_nil, isNil_iface, wr_wr, Option.isNone_none, Option.isNone_some, plus, Nat.zero_add, Nat.add_zero, f4, f5, f6, g1, g2, g3]
  exact .some ⟨rfl, rfl, by rw [errC_pos (by omega)], ((g4.wr (by omega) _).wr (by omega) _).wr (by omega) _⟩
end Go.Proofs.Ytmfmoanjecjeeaa
