/- NandPlays: any script on a chip and on clones of it is answered as the document says; all that is known at the end; what came out stays its owner's. For every list of operations. -/
import Derived.Test.YtlbbcgjfkpnilaaTwo7
import Derived.Test.YtlbbcgjfkpnilaaTold0
import Derived.Test.YtlbbcgjfkpnilaaFLNandPlays
set_option linter.unusedVariables false
set_option linter.unusedSectionVars false
set_option linter.unusedSimpArgs false
namespace Go.Proofs.Ytlbbcgjfkpnilaa
open Go.Mx

theorem apart_none (k : Nat) (hk : 0 < k) (m : Mem) : patinaref01_Apart k none 0 0 m = some (true, m) := by
  obtain ⟨k, rfl⟩ : ∃ j, k = j + 1 := ⟨k - 1, by omega⟩
  unfold patinaref01_Apart patinaref01_Apart_l0 patinaref01_Apart_l0_b
  simp (disch := omega) only [Option.bind_some, Option.map_some, cond_true, cond_false, wrap_i64, tmod_pos, tdiv_pos, inRange_yes, inUpto_yes, isZero_no, decide_eq_true, decide_eq_false, Bool.not_true, Bool.not_false, Int.toNat_natCast, Nat.mul_one, beqI_yes, beqI_no, bneI_yes, bneI_no, isNil_nil, isNil_iface, wr_wr, Option.isNone_none, Option.isNone_some, plus, Nat.zero_add, Nat.add_zero]
  unfold patinaref01_Apart_l6 patinaref01_Apart_l6_b
  simp (disch := omega) only [Option.bind_some, Option.map_some, cond_true, cond_false, wrap_i64, tmod_pos, tdiv_pos, inRange_yes, inUpto_yes, isZero_no, decide_eq_true, decide_eq_false, Bool.not_true, Bool.not_false, Int.toNat_natCast, Nat.mul_one, beqI_yes, beqI_no, bneI_yes, bneI_no, isNil_nil, isNil_iface, wr_wr, Option.isNone_none, Option.isNone_some, plus, Nat.zero_add, Nat.add_zero]
theorem nandPlays_run (m0 : Mem) (p0 : Option Addr) (n0 c0 : Nat) (hh : NHolds m0 p0 n0 [.flat (.int .i64), .flat (.int .i64), .flat (.int .i64), .sl [.int .u8]]) (hc : n0 ≤ c0) (y0 : n0 * 48 ≤ 140737488351232) :
    ∃ k m', patinalaw05_NandPlays k p0 n0 c0 m0 = some (true, m') := by
  obtain ⟨k, hk, hk2⟩ : ∃ k, 140737488360000 < k ∧ n0 + 10 < k := ⟨n0 + 140737488360001, by omega, by omega⟩
  refine ⟨k, ?_⟩
  have key : Ok (patinalaw05_NandPlays k p0 n0 c0 m0) fun r => r.1 = true := by
    unfold patinalaw05_NandPlays
    refine .bind (shownG k (by omega) m0) ?_
    rintro ⟨_, m1⟩ ⟨rfl, h1⟩
    refine .bind (newG k (by omega) m1) ?_
    rintro ⟨_, m2⟩ ⟨c, rfl, h2, hc1, hc2⟩
    refine .bind (newG k (by omega) m2) ?_
    rintro ⟨_, m3⟩ ⟨d, rfl, h3, hd1, hd2⟩
    refine .bind (refNew_ok k (by omega) m3) ?_
    rintro ⟨_, m4⟩ ⟨rfl, lab, g, hR, h4, hl⟩
    refine .bind (refNew_ok k (by omega) m4) ?_
    rintro ⟨_, m5⟩ ⟨rfl, lab', g', hS, h5, hl'⟩
    simp only at h1 h2 hc1 hc2 h3 hd1 hd2 hR h4 hl hS h5 hl' ⊢
    obtain ⟨ro, X, hT, hX, hX0, hlo⟩ := begin_ok h1 h2 hc1 hc2 h3 hd1 hd2 h4 hR hl h5 hS hl'
    generalize hm6 : m5 ++ [MObj.live [.pointer (some ⟨c, 0, none⟩), .pointer (some ⟨d, 0, none⟩), .pointer (some ⟨m3.length, 0, none⟩), .pointer (some ⟨m4.length, 0, none⟩), .slice none 0 0, .slice none 0 0]] = m6 at *
    have q0 : ldPtr m6 ⟨m5.length, 0, none⟩ = some (some ⟨c, 0, none⟩) := ldPtr_of hT.t_.1 rfl
    have q1 : ldPtr m6 ⟨m5.length, 1, none⟩ = some (some ⟨d, 0, none⟩) := ldPtr_of hT.t_.1 rfl
    simp (disch := omega) only [Option.bind_some, Option.map_some, cond_true, cond_false, wrap_i64, tmod_pos, tdiv_pos, inRange_yes, inUpto_yes, isZero_no, decide_eq_true, decide_eq_false, Bool.not_true, Bool.not_false, Int.toNat_natCast, Nat.mul_one, beqI_yes, beqI_no, bneI_yes, bneI_no, isNil_nil, isNil_iface, wr_wr, Option.isNone_none, Option.isNone_some, plus, Nat.zero_add, Nat.add_zero, q0, q1]
    -- the script
    refine patinalaw05_NandPlays_l0_rule k _ _ (fun r x0a x0n x0c x7 x8 x9 M => p0 = x0a ∧ n0 = x0n ∧ c0 = x0c ∧ true = x7 ∧ (⟨m5.length, 0, none⟩ : Addr) = x8 ∧ ∃ (i : Nat) (c d r0 s : Nat) (ro : Nat → Option Role) (gr gs : RG) (σ τ : ChipS) (X : TX), x9 = i ∧ i + r = n0 ∧ TI m0 M m5.length c d r0 s ro gr gs σ σ τ τ X ∧ Wf i σ ∧ Wf i τ ∧ Eqs X ∧ X.N ≤ i ∧ X.lo = 0) ?_ k n0 _ _ _ _ _ _ _ (by omega)
      ⟨rfl, rfl, rfl, rfl, rfl, 0, c, d, m3.length, m4.length, ro, g, g', fresh, fresh, X, rfl, by omega, hT, Wf.fresh, Wf.fresh, hX, by omega, hlo⟩
    clear hT hX hX0 q0 q1 hm6 hlo
    rintro r nx _ _ _ _ _ _ M ⟨rfl, rfl, rfl, rfl, rfl, i, c, d, r0, s, ro, gr, gs, σ, τ, X, rfl, hr, hT, hw, hw', hX, hN, hlo⟩ hnx
    unfold patinalaw05_NandPlays_l0_b
    by_cases hi : (i : Int) < n0
    · obtain ⟨rfl, kk, a, b, sa, sn, sc, w, hA0⟩ := opA hh (i := i) (by omega)
      have hA := hA0.grow hT.base
      have i1 : inRange (i : Int) n0 = true := inRange_yes (by omega) (by omega)
      have ti : Int.toNat (i : Int) = i := Int.toNat_natCast i
      obtain ⟨z, z1, z2, z3⟩ := pickN k kk 11 hA.kr (by omega)
      have hsn := hA.sn_
      have hc := hA.cells
      simp (disch := omega) only [Option.bind_some, Option.map_some, cond_true, cond_false, wrap_i64, tmod_pos, tdiv_pos, inRange_yes, inUpto_yes, isZero_no, decide_eq_true, decide_eq_false, Bool.not_true, Bool.not_false, Int.toNat_natCast, Nat.mul_one, beqI_yes, beqI_no, bneI_yes, bneI_no, isNil_nil, isNil_iface, wr_wr, Option.isNone_none, Option.isNone_some, plus, Nat.zero_add, Nat.add_zero, decide_eq_true hi, i1, ti, hc]
      refine .bind (two_all k (by omega) hT hw hw' (by omega) hX hN (fun M hg => hA0.src.grow hg) hsn (by omega) hA.ar hA.br z1 z2 z3) ?_
      rintro ⟨_, M'⟩ ⟨rfl, c, d, r1, s, ro', gr', gs', σ', τ', X', t1, t2, t3, t4, t5, t6⟩
      simp (disch := omega) only [Option.bind_some, Option.map_some, cond_true, cond_false, wrap_i64, tmod_pos, tdiv_pos, inRange_yes, inUpto_yes, isZero_no, decide_eq_true, decide_eq_false, Bool.not_true, Bool.not_false, Int.toNat_natCast, Nat.mul_one, beqI_yes, beqI_no, bneI_yes, bneI_no, isNil_nil, isNil_iface, wr_wr, Option.isNone_none, Option.isNone_some, plus, Nat.zero_add, Nat.add_zero]
      exact hnx (r - 1) _ _ _ _ _ _ _ (by omega) ⟨rfl, rfl, rfl, rfl, rfl, i + 1, c, d, r1, s, ro', gr', gs', σ', τ', X', by omega, by omega, t1, t2, t3, t4, t5, by omega⟩
    · clear hnx
      obtain rfl : i = n0 := by omega
      rw [decide_eq_false hi, cond_false]
      -- what was told
      refine patinalaw05_NandPlays_l2_rule k _ _ (fun r x3 x4 x7 M' => true = x3 ∧ (⟨m5.length, 0, none⟩ : Addr) = x4 ∧ M = M' ∧ ∃ j : Nat, x7 = j ∧ j + r = X.N) ?_ k X.N _ _ _ _ (by omega)
        ⟨rfl, rfl, rfl, 0, rfl, by omega⟩
      rintro r2 nx2 _ _ _ _ ⟨rfl, rfl, rfl, j, rfl, hr2⟩ hnx2
      unfold patinalaw05_NandPlays_l2_b
      have l4 : ldSl M ⟨m5.length, 4, none⟩ = some ⟨X.ta, X.N, X.N⟩ := ldSl_of hT.t_.1 rfl
      have l5 : ldSl M ⟨m5.length, 5, none⟩ = some ⟨X.wa, X.N', X.N'⟩ := ldSl_of hT.t_.1 rfl
      by_cases hj : (j : Int) < X.N
      · have tj : Int.toNat (j : Int) = j := Int.toNat_natCast j
        have hjn : j < X.N := by omega
        have hjn' : j < X.N' := by rw [← hX.1]; exact hjn
        have j1 : inRange (j : Int) X.N = true := inRange_yes (by omega) (by omega)
        have j2 : inRange (j : Int) X.N' = true := inRange_yes (by omega) (by omega)
        rcases hT.ta_ with ⟨_, h0⟩ | ⟨q, hq1, hq2, hq3⟩
        · omega
        rcases hT.wa_ with ⟨_, h0⟩ | ⟨q', hq1', hq2', hq3'⟩
        · omega
        have e1 : ldSl M ⟨q, j, some 1⟩ = some ⟨rowA (X.R j), X.nn j, X.nn j⟩ := ldSl_of hq2 (slr_get hjn)
        have e2 : ldSl M ⟨q', j, some 1⟩ = some ⟨rowA (X.R' j), X.nn' j, X.nn' j⟩ := ldSl_of hq2' (slr_get hjn')
        obtain ⟨g1, g2, g3⟩ := hT.rows j (by omega) hjn
        obtain ⟨g1', g2', g3'⟩ := hT.rows' j (by omega) hjn'
        obtain ⟨z, s1, s2⟩ := same_is k (m := M) (c := X.nn j) (c' := X.nn' j) g2.src g2'.src (by omega) (by omega)
        have hz : z = true := s2.2 (hX.2 j (by omega) hjn)
        subst hz
        simp (disch := omega) only [Option.bind_some, Option.map_some, cond_true, cond_false, wrap_i64, tmod_pos, tdiv_pos, inRange_yes, inUpto_yes, isZero_no, decide_eq_true, decide_eq_false, Bool.not_true, Bool.not_false, Int.toNat_natCast, Nat.mul_one, beqI_yes, beqI_no, bneI_yes, bneI_no, isNil_nil, isNil_iface, wr_wr, Option.isNone_none, Option.isNone_some, plus, Nat.zero_add, Nat.add_zero, l4, decide_eq_true hj, j1, hq1, tj, e1, l5, j2, hq1', e2, s1]
        exact hnx2 (r2 - 1) _ _ _ _ (by omega) ⟨rfl, rfl, rfl, j + 1, by omega, by omega⟩
      · clear hnx2
        simp (disch := omega) only [Option.bind_some, Option.map_some, cond_true, cond_false, wrap_i64, tmod_pos, tdiv_pos, inRange_yes, inUpto_yes, isZero_no, decide_eq_true, decide_eq_false, Bool.not_true, Bool.not_false, Int.toNat_natCast, Nat.mul_one, beqI_yes, beqI_no, bneI_yes, bneI_no, isNil_nil, isNil_iface, wr_wr, Option.isNone_none, Option.isNone_some, plus, Nat.zero_add, Nat.add_zero, l4, decide_eq_false hj]
        -- apart
        have ap : Ok (patinaref01_Apart k X.ta X.N X.N M) fun x => x.1 = true ∧ TI m0 x.2 m5.length c d r0 s ro gr gs σ σ τ τ { X with lo := X.N } := by
          rcases hT.ta_ with ⟨h1, h0⟩ | ⟨q, hq1, hq2, hq3⟩
          · have e : patinaref01_Apart k X.ta X.N X.N M = some (true, M) := by rw [h1, h0, apart_none k (by omega)]
            rw [e]
            exact .some ⟨rfl, hT.drop (Nat.le_refl _) hX.1 (fun _ _ _ => rfl)⟩
          · have e : patinaref01_Apart k X.ta X.N X.N M = patinaref01_Apart k (some ⟨q, 0, some 1⟩) X.N X.N M := by rw [hq1]
            rw [e]
            refine (apart2_ok k (by omega) (cc := X.N) (L := X.nn) hq2 (fun j hj => ((hT.rows j (by omega) hj).2.1).weak fun _ _ => trivial) (fun j hj => (hT.rows j (by omega) hj).1) ?_ ?_ (by omega) (by omega)).mono ?_
            · intro i j hi hj hne D hD hD'
              have a1 := (hT.rows i (by omega) hi).2.2 D hD
              have a2 := (hT.rows j (by omega) hj).2.2 D hD'
              rw [a1] at a2; cases a2; exact hne rfl
            · intro i hi hD
              have a1 := (hT.rows i (by omega) hi).2.2 q hD
              rw [hq3] at a1; cases a1
            · rintro ⟨_, M'⟩ ⟨b1, b2, b3⟩
              exact ⟨b1, hT.drop b2 hX.1 fun p hp hno => b3 p hp fun j hj hD => hno j ((hT.rows j (by omega) hj).2.2 p hD)⟩
        refine .bind ap ?_
        rintro ⟨_, M1⟩ ⟨rfl, hT1⟩
        simp only at hT1 ⊢
        have hX1 : Eqs { X with lo := X.N } := ⟨hX.1, fun i hlo hi => by simp only at hlo hi; omega⟩
        refine .bind (two_stands k (by omega) hT1 hw (by omega) hX1 (by show X.N < _; omega) (by omega)) ?_
        rintro ⟨_, M2⟩ ⟨rfl, ro2, σ2, X2, t1, t2, t3, t4, t5⟩
        simp only at t1 t4 ⊢
        have sw := two_kind10 (n := i + 96) (w := fun _ => 0) k (by omega) t1 t2 (hw'.mono (by omega)) (by omega) t3 (by have : X.N ≤ i := hN; have : X2.N ≤ X.N + 12 := t4; omega) (kk := 10) (a := 0) (b := 0) (sa := none) (sn := 0) (sc := 0) (fun _ _ => rfl) (by omega) (by omega) (by omega) (by omega) (fun M => pick11 k (by omega) (by omega) M)
        refine .bind sw ?_
        rintro ⟨_, M3⟩ ⟨rfl, c3, d3, r3, s3, ro3, gr3, gs3, σ3, τ3, X3, u1, u2, u3, u4, u5, u6⟩
        simp only at u1 ⊢
        refine .bind (two_stands k (by omega) u1 u2 (by omega) u4 (by omega) (by omega)) ?_
        rintro ⟨_, M4⟩ ⟨rfl, _⟩
        exact .some rfl
  obtain ⟨⟨_, m'⟩, h1, rfl⟩ := key
  exact ⟨m', h1⟩
end Go.Proofs.Ytlbbcgjfkpnilaa
