/- Bytes that are lent: a copy with marked places behind it. -/
import Derived.Test.YtlbbcgjfkpnilaaByl
import Derived.Test.YtlbbcgjfkpnilaaRsA
set_option linter.unusedVariables false
set_option linter.unusedSectionVars false
set_option linter.unusedSimpArgs false
namespace Go.Proofs.Ytlbbcgjfkpnilaa
open Go.Mx

/-- what is lent: its own copy d, and what it was, e -/
structure Lent (m : Mem) (x d e n : Nat) (u : Nat → GF) : Prop where
  xd : x ≠ d
  xe : x ≠ e
  de : d ≠ e
  x_ : m[x]? = some (.live [.slice (some ⟨d, 0, some 1⟩) (n + 5) (n + 5), .slice (some ⟨e, 0, some 1⟩) (n + 5) (n + 5), .int .i64 n])
  d_ : m[d]? = some (.live (bys (n + 5) u))
  e_ : m[e]? = some (.live (bys (n + 5) u))
theorem Lent.grow {m m' : Mem} {x d e n : Nat} {u : Nat → GF} (h : Lent m x d e n u) (hg : Gr m m') : Lent m' x d e n u := ⟨h.xd, h.xe, h.de, hg.get h.x_, hg.get h.d_, hg.get h.e_⟩
theorem wrap70 {i : Nat} (hi : i < 5) : IntKind.wrap .u8 (70 + (i : Int)) = ((GF.of (70 + i)).v : Int) := by
  rw [GF.v_of (by omega)]
  simp only [IntKind.wrap, IntKind.bits, IntKind.signed, Bool.false_and, Bool.false_eq_true, if_false]
  omega
theorem wrapB (z : Int) : IntKind.wrap .u8 z = ((GF.of (z % 256).toNat).v : Int) := by
  rw [GF.v_of (by omega)]
  simp only [IntKind.wrap, IntKind.bits, IntKind.signed, Bool.false_and, Bool.false_eq_true, if_false]
  omega

theorem lend_ok (k : Nat) (hk : 1000 < k) {m : Mem} {b : Option Addr} {n c : Nat} {w : Nat → GF} (hw : Src m b n w) (hn : n ≤ 140737488351232) :
    Ok (patinaref01_Lend k b n c m) fun r => ∃ x d e u, r.1 = some ⟨x, 0, none⟩ ∧ Gr m r.2 ∧ m.length ≤ x ∧ m.length ≤ d ∧ m.length ≤ e ∧ Lent r.2 x d e n u ∧ ∀ i, i < n → u i = w i := by
  unfold patinaref01_Lend
  have hx1 := get_last (m := m) (o := .live [.slice none 0 0, .slice none 0 0, .int .i64 (n : Int)]) rfl
  have hg1 : Gr m (m ++ [.live [.slice none 0 0, .slice none 0 0, .int .i64 (n : Int)]]) := Gr.app _ _
  have hl1 : (m ++ [MObj.live [.slice none 0 0, .slice none 0 0, .int .i64 (n : Int)]]).length = m.length + 1 := by simp
  generalize m ++ [MObj.live [.slice none 0 0, .slice none 0 0, .int .i64 (n : Int)]] = m1 at *
  have l1 : ldSl m1 ⟨m.length, 0, none⟩ = some ⟨none, 0, 0⟩ := ldSl_of hx1 rfl
  have hw1 : rdSl m1 b n 1 = some (bys n w) := hw.grow hg1
  -- the first append
  have first : ∃ a m2, appM 1 1 m1 none 0 0 n (bys n w) = some (⟨a, n, n⟩, m2) ∧ Gr m m2 ∧ Ac (m.length + 1) m2 a n w ∧ m2[m.length]? = m1[m.length]? := by
    by_cases h0 : n = 0
    · subst h0
      refine ⟨none, m1, ?_, hg1, .nil _ _ _, rfl⟩
      unfold appM
      rfl
    · obtain ⟨m2, h1, h2, h3, h4, h5, h6⟩ := (Ac.nil (m.length + 1) m1 w).app (u := w) (l := n) (by omega) (by omega) (by unfold most; omega)
      rw [Nat.zero_add] at h1 h2
      exact ⟨_, m2, h1, h6 m hg1 (by omega), h2.congr fun i _ => by rw [if_neg (by omega)]; rfl, h5 _ (by omega) fun d hd => by cases hd⟩
  obtain ⟨a, m2, e1, hG2, hA, hx2⟩ := first
  rw [hx1] at hx2
  have e2 := st_wr (sp := none) (off := 0) (v := .slice a n n) hx2 (by simp)
  simp (disch := omega) only [Option.bind_some, Option.map_some, cond_true, cond_false, wrap_i64, tmod_pos, tdiv_pos, inRange_yes, inUpto_yes, isZero_no, decide_eq_true, decide_eq_false, Bool.not_true, Bool.not_false, Int.toNat_natCast, Nat.mul_one, beqI_yes, beqI_no, bneI_yes, bneI_no, isNil_nil, isNil_iface, wr_wr, Option.isNone_none, Option.isNone_some, plus, Nat.zero_add, Nat.add_zero, l1, hw1, e1, e2]
  have hset : ∀ (y z : Value) (a : Option Addr) (n' : Nat), ([y, z, .int .i64 (n : Int)] : List Value).set 0 (.slice a n' n') = [.slice a n' n', z, .int .i64 (n : Int)] := fun _ _ _ _ => rfl
  have keepx : ∀ {m' : Mem} {a : Option Addr} {n' : Nat} {u : Nat → GF} (cs : List Value), Ac (m.length + 1) m' a n' u → Ac (m.length + 1) (wr m' m.length cs) a n' u := fun cs h => h.keep fun p o hp ho => by rw [wr_ne (by omega)]; exact ho
  rw [hset]
  refine patinaref01_Lend_l0_rule k _ (fun r x3 x4 m' => ⟨m.length, 0, none⟩ = x3 ∧ ∃ (i : Nat) (a : Option Addr) (u : Nat → GF), x4 = i ∧ i + r = 5 ∧ Gr m m' ∧ m.length < m'.length ∧ Ac (m.length + 1) m' a (n + i) u ∧ m'[m.length]? = some (.live [.slice a (n + i) (n + i), .slice none 0 0, .int .i64 (n : Int)]) ∧ ∀ j, j < n → u j = w j) ?_ k 5 _ _ _ (by omega)
    ⟨rfl, 0, a, w, rfl, by omega, hG2.wr (Nat.le_refl _) _, by rw [wr_len]; exact get_lt hx2, keepx _ hA, wr_get hx2, fun _ _ => rfl⟩
  rintro r nx _ _ m' ⟨rfl, i, a, u, rfl, hr, hG, hlt, hA, hx, hu⟩ hnx
  unfold patinaref01_Lend_l0_b
  have f1 : ldSl m' ⟨m.length, 0, none⟩ = some ⟨a, n + i, n + i⟩ := ldSl_of hx rfl
  have nd : ∀ d, a = some ⟨d, 0, some 1⟩ → m.length ≠ d := by
    rintro d rfl
    rcases hA with ⟨h, _⟩ | ⟨d', h, h2, _⟩
    · cases h
    · simp only [Option.some.injEq, Addr.mk.injEq] at h; omega
  by_cases hi : (i : Int) < 5
  · obtain ⟨m3, g1, g2, g3, g4, g5, g6⟩ := hA.one (by omega) (GF.of (70 + i)) (by unfold most; omega)
    have hx3 := g5 m.length hlt nd
    rw [hx] at hx3
    have g7 := st_wr (sp := none) (off := 0) (v := .slice (some ⟨m'.length + 1, 0, some 1⟩) (n + i + 1) (n + i + 1)) hx3 (by simp)
    rw [hset] at g7
    simp (disch := omega) only [Option.bind_some, Option.map_some, cond_true, cond_false, wrap_i64, tmod_pos, tdiv_pos, inRange_yes, inUpto_yes, isZero_no, decide_eq_true, decide_eq_false, Bool.not_true, Bool.not_false, Int.toNat_natCast, Nat.mul_one, beqI_yes, beqI_no, bneI_yes, bneI_no, isNil_nil, isNil_iface, wr_wr, Option.isNone_none, Option.isNone_some, plus, Nat.zero_add, Nat.add_zero, f1, wrap70, rdSl_new, g1, g7]
    refine hnx (r - 1) _ _ _ (by omega) ⟨rfl, i + 1, _, _, by omega, by omega, (g6 m hG (by omega)).wr (Nat.le_refl _) _, by rw [wr_len]; omega, keepx _ g2, wr_get hx3, fun j hj => ?_⟩
    unfold put; rw [if_neg (by omega)]; exact hu j hj
  · obtain rfl : i = 5 := by omega
    have f2 : ldSl m' ⟨m.length, 1, none⟩ = some ⟨none, 0, 0⟩ := ldSl_of hx rfl
    have f3 := hA.src
    unfold Src at f3
    obtain ⟨m3, g1, g2, g3, g4, g5, g6⟩ := (Ac.nil (m.length + 1) m' u).app (u := u) (l := n + 5) (by omega) (by omega) (by unfold most; omega)
    rw [Nat.zero_add] at g1 g2 g4
    have hx3 := g5 m.length hlt fun d hd => by cases hd
    rw [hx] at hx3
    have g7 := st_wr (sp := none) (off := 1) (v := .slice (some ⟨m'.length, 0, some 1⟩) (n + 5) (n + 5)) hx3 (by simp)
    simp (disch := omega) only [Option.bind_some, Option.map_some, cond_true, cond_false, wrap_i64, tmod_pos, tdiv_pos, inRange_yes, inUpto_yes, isZero_no, decide_eq_true, decide_eq_false, Bool.not_true, Bool.not_false, Int.toNat_natCast, Nat.mul_one, beqI_yes, beqI_no, bneI_yes, bneI_no, isNil_nil, isNil_iface, wr_wr, Option.isNone_none, Option.isNone_some, plus, Nat.zero_add, Nat.add_zero, f1, f2, f3, g1, g7]
    rcases hA with ⟨_, h⟩ | ⟨d, rfl, hd1, hd2⟩
    · omega
    have hdl := get_lt hd2
    refine .some ⟨m.length, d, m'.length, u, rfl, (g6 m hG (by omega)).wr (Nat.le_refl _) _, Nat.le_refl _, by omega, by omega, ⟨by omega, by omega, by omega, wr_get hx3, ?_, ?_⟩, hu⟩
    · rw [wr_ne (by omega), g5 d hdl fun d' hd' => by cases hd']; exact hd2
    · rw [wr_ne (by omega), g4]
      congr 2

theorem bytes_is (k : Nat) {m : Mem} {x d e n : Nat} {u : Nat → GF} (h : Lent m x d e n u) : patinaref01_Lent_Bytes k (some ⟨x, 0, none⟩) m = some (⟨some ⟨d, 0, some 1⟩, n, n + 5⟩, m) := by
  unfold patinaref01_Lent_Bytes
  have f1 : ldSl m ⟨x, 0, none⟩ = some ⟨some ⟨d, 0, some 1⟩, n + 5, n + 5⟩ := ldSl_of h.x_ rfl
  have f2 : ldInt .i64 m ⟨x, 2, none⟩ = some (n : Int) := ldInt_of h.x_ rfl
  have hcl : sliceK.clear (some ⟨d, 0, some 1⟩) false = some ⟨d, 0, some 1⟩ := rfl
  have hu : inUpto (n : Int) (n + 5) = true := inUpto_yes (by omega) (by omega)
  simp (disch := omega) only [Option.bind_some, Option.map_some, cond_true, cond_false, wrap_i64, tmod_pos, tdiv_pos, inRange_yes, inUpto_yes, isZero_no, decide_eq_true, decide_eq_false, Bool.not_true, Bool.not_false, Int.toNat_natCast, Nat.mul_one, beqI_yes, beqI_no, bneI_yes, bneI_no, isNil_nil, isNil_iface, wr_wr, Option.isNone_none, Option.isNone_some, plus, Nat.zero_add, Nat.add_zero, f1, f2, hcl, hu]
theorem kept_is (k : Nat) {m : Mem} {x d e n : Nat} {u : Nat → GF} (h : Lent m x d e n u) (hk : n + 5 < k) (hn : n < 4611686018427387000) : patinaref01_Lent_Kept k (some ⟨x, 0, none⟩) m = some (true, m) := by
  unfold patinaref01_Lent_Kept
  have f1 : ldSl m ⟨x, 0, none⟩ = some ⟨some ⟨d, 0, some 1⟩, n + 5, n + 5⟩ := ldSl_of h.x_ rfl
  have f2 : ldSl m ⟨x, 1, none⟩ = some ⟨some ⟨e, 0, some 1⟩, n + 5, n + 5⟩ := ldSl_of h.x_ rfl
  obtain ⟨z, e8, e9⟩ := same_is k (c := n + 5) (c' := n + 5) (Src.of (sp := some 1) h.d_) (Src.of (sp := some 1) h.e_) hk (by omega)
  have hz : z = true := e9.2 ⟨rfl, fun i hi => rfl⟩
  subst hz
  simp (disch := omega) only [Option.bind_some, Option.map_some, cond_true, cond_false, wrap_i64, tmod_pos, tdiv_pos, inRange_yes, inUpto_yes, isZero_no, decide_eq_true, decide_eq_false, Bool.not_true, Bool.not_false, Int.toNat_natCast, Nat.mul_one, beqI_yes, beqI_no, bneI_yes, bneI_no, isNil_nil, isNil_iface, wr_wr, Option.isNone_none, Option.isNone_some, plus, Nat.zero_add, Nat.add_zero, f1, f2, e8]

theorem turn_ok (k : Nat) {m : Mem} {x d e n : Nat} {u : Nat → GF} (h : Lent m x d e n u) (hk : n + 5 < k) (hn : n ≤ 140737488351232) :
    Ok (patinaref01_Lent_Turn k (some ⟨x, 0, none⟩) m) fun m' => (∃ u', Lent m' x d e n u') ∧ (∀ p, p ≠ d → p ≠ e → m'[p]? = m[p]?) ∧ m'.length = m.length ∧ ∀ m0, Gr m0 m → m0.length ≤ d → m0.length ≤ e → Gr m0 m' := by
  unfold patinaref01_Lent_Turn
  refine patinaref01_Lent_Turn_l0_rule k _ (fun r x0 x2 m' => (some ⟨x, 0, none⟩ : Option Addr) = x0 ∧ ∃ (i : Nat) (u' : Nat → GF), x2 = i ∧ i + r = n + 5 ∧ m' = wr (wr m d (bys (n + 5) u')) e (bys (n + 5) u')) ?_ k (n + 5) _ _ _ hk ⟨rfl, 0, u, rfl, by omega, by
    rw [wr_same h.d_, wr_same h.e_]⟩
  rintro r nx _ _ m' ⟨rfl, i, u', rfl, hr, rfl⟩ hnx
  have hd := wr_get (cs := bys (n + 5) u') h.d_
  have he : (wr m d (bys (n + 5) u'))[e]? = some (.live (bys (n + 5) u)) := by rw [wr_ne h.de]; exact h.e_
  have he2 := wr_get (cs := bys (n + 5) u') he
  have hd2 : (wr (wr m d (bys (n + 5) u')) e (bys (n + 5) u'))[d]? = some (.live (bys (n + 5) u')) := by rw [wr_ne (Ne.symm h.de)]; exact hd
  have hx2 : (wr (wr m d (bys (n + 5) u')) e (bys (n + 5) u'))[x]? = m[x]? := by rw [wr_ne (Ne.symm h.xe), wr_ne (Ne.symm h.xd)]
  have hL : Lent (wr (wr m d (bys (n + 5) u')) e (bys (n + 5) u')) x d e n u' := ⟨h.xd, h.xe, h.de, by rw [hx2]; exact h.x_, hd2, he2⟩
  unfold patinaref01_Lent_Turn_l0_b
  have f1 : ldSl (wr (wr m d (bys (n + 5) u')) e (bys (n + 5) u')) ⟨x, 0, none⟩ = some ⟨some ⟨d, 0, some 1⟩, n + 5, n + 5⟩ := ldSl_of hL.x_ rfl
  have nc : ((n + 5 : Nat) : Int) = (n : Int) + 5 := by omega
  by_cases hi : (i : Int) < (n : Int) + 5
  · have f2 := bys_st (sp := some 1) hd2 (i := i) (by omega) (GF.of ((90 + (i : Int)) % 256).toNat)
    have hx3 : (wr (wr (wr m d (bys (n + 5) u')) e (bys (n + 5) u')) d (bys (n + 5) (put u' i (GF.of ((90 + (i : Int)) % 256).toNat))))[x]? = some (.live [.slice (some ⟨d, 0, some 1⟩) (n + 5) (n + 5), .slice (some ⟨e, 0, some 1⟩) (n + 5) (n + 5), .int .i64 (n : Int)]) := by
      rw [wr_ne (Ne.symm h.xd)]; exact hL.x_
    have f3 : ∀ M : Mem, M[x]? = some (.live [.slice (some ⟨d, 0, some 1⟩) (n + 5) (n + 5), .slice (some ⟨e, 0, some 1⟩) (n + 5) (n + 5), .int .i64 (n : Int)]) → ldSl M ⟨x, 1, none⟩ = some ⟨some ⟨e, 0, some 1⟩, n + 5, n + 5⟩ ∧ ldSl M ⟨x, 0, none⟩ = some ⟨some ⟨d, 0, some 1⟩, n + 5, n + 5⟩ := fun M hM => ⟨ldSl_of hM rfl, ldSl_of hM rfl⟩
    obtain ⟨f4, f5⟩ := f3 _ hx3
    have f6 := bys_ld (sp := some 1) (wr_get (cs := bys (n + 5) (put u' i (GF.of ((90 + (i : Int)) % 256).toNat))) hd2) (i := i) (by omega)
    have hp : put u' i (GF.of ((90 + (i : Int)) % 256).toNat) i = GF.of ((90 + (i : Int)) % 256).toNat := if_pos rfl
    rw [hp] at f6
    have he3 : (wr (wr (wr m d (bys (n + 5) u')) e (bys (n + 5) u')) d (bys (n + 5) (put u' i (GF.of ((90 + (i : Int)) % 256).toNat))))[e]? = some (.live (bys (n + 5) u')) := by rw [wr_ne h.de]; exact he2
    have f7 := bys_st (sp := some 1) he3 (i := i) (by omega) (GF.of ((90 + (i : Int)) % 256).toNat)
    have hin : inRange (i : Int) (n + 5) = true := inRange_yes (by omega) (by omega)
    have hw90 : IntKind.wrap .i64 (90 + (i : Int)) = 90 + (i : Int) := wrap_i64 (by omega) (by omega)
    simp (disch := omega) only [Option.bind_some, Option.map_some, cond_true, cond_false, wrap_i64, tmod_pos, tdiv_pos, inRange_yes, inUpto_yes, isZero_no, decide_eq_true, decide_eq_false, Bool.not_true, Bool.not_false, Int.toNat_natCast, Nat.mul_one, beqI_yes, beqI_no, bneI_yes, bneI_no, isNil_nil, isNil_iface, wr_wr, Option.isNone_none, Option.isNone_some, plus, Nat.zero_add, Nat.add_zero, f1, nc, hin, hw90, wrapB, f2, f4, f5, f6, f7]
    refine hnx (r - 1) _ _ _ (by omega) ⟨rfl, i + 1, put u' i (GF.of ((90 + (i : Int)) % 256).toNat), by omega, by omega, ?_⟩
    apply List.ext_getElem?
    intro p
    unfold wr
    simp only [List.getElem?_set, List.length_set]
    by_cases hpe : e = p
    · subst hpe; simp [h.de]
    · by_cases hpd : d = p
      · subst hpd; simp [Ne.symm h.de, hpe]
      · simp [hpe, hpd]
  · obtain rfl : i = n + 5 := by omega
    simp (disch := omega) only [Option.bind_some, Option.map_some, cond_true, cond_false, wrap_i64, tmod_pos, tdiv_pos, inRange_yes, inUpto_yes, isZero_no, decide_eq_true, decide_eq_false, Bool.not_true, Bool.not_false, Int.toNat_natCast, Nat.mul_one, beqI_yes, beqI_no, bneI_yes, bneI_no, isNil_nil, isNil_iface, wr_wr, Option.isNone_none, Option.isNone_some, plus, Nat.zero_add, Nat.add_zero, f1, nc]
    exact .some ⟨⟨u', hL⟩, fun p h1 h2 => by rw [wr_ne (Ne.symm h2), wr_ne (Ne.symm h1)], by rw [wr_len, wr_len], fun m0 h0 h1 h2 => (h0.wr h1 _).wr h2 _⟩
end Go.Proofs.Ytlbbcgjfkpnilaa
