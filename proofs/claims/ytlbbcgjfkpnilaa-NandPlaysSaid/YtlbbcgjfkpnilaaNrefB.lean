/- The document's chip: reads, writes, turned bits. -/
import Derived.Test.YtlbbcgjfkpnilaaNrefA
set_option linter.unusedVariables false
set_option linter.unusedSectionVars false
set_option linter.unusedSimpArgs false
namespace Go.Proofs.Ytlbbcgjfkpnilaa
open Go.Mx

section
variable {m : Mem} {r : Nat} {lab : Nat → Option Lab} {g : RG} {σ : ChipS} (h : RefX m r lab g σ)
include h
/-- the bytes of a page -/
theorem refPage_ok (k : Nat) (hk : 64 < k) {p : Int} (h0 : 0 ≤ p) (h1 : p < 96) {W : Nat → GF} (hW : ∀ (q i : Nat), q < 4 → i < 64 → (σ.at_ p q).now i = ((W (q * 64 + i)).v : Int)) :
    Ok (patinaref05_Chip_Page k (some ⟨r, 0, none⟩) p m) fun x => ∃ d, x.1 = ⟨some ⟨d, 0, some 1⟩, 256, 256⟩ ∧ Gr m x.2 ∧ m.length ≤ d ∧ x.2[d]? = some (.live (bys 256 W)) := by
  unfold patinaref05_Chip_Page
  refine patinaref05_Chip_Page_l0_rule k _ (fun rr x0 x1 xa xn xc x6 M => (some ⟨r, 0, none⟩ : Option Addr) = x0 ∧ p = x1 ∧ ∃ j : Nat, x6 = j ∧ j + rr = 4 ∧ j * 64 = xn ∧ j * 64 = xc ∧ Ab m M xa (j * 64) W) ?_ k 4 _ _ _ _ _ _ _ (by omega)
    ⟨rfl, rfl, 0, rfl, rfl, rfl, rfl, .nil _ _⟩
  rintro rr nx _ _ xa _ _ _ M ⟨rfl, rfl, j, rfl, hr, rfl, rfl, hA⟩ hnx
  unfold patinaref05_Chip_Page_l0_b
  by_cases hj : (j : Int) < 4
  · have hp : isAt p j := ⟨h0, h1, by omega, by omega⟩
    have hM : RefX M r lab g σ := h.grow hA.1
    have hb : arr .u8 64 (σ.at_ p j).now = bys 64 fun i => W (j * 64 + i) := arr_congr fun i i0 i1 => by
      have := hW j i.toNat (by omega) (by omega)
      rw [Int.toNat_of_nonneg i0] at this
      rw [this]; rfl
    have hn := hM.now_ hp
    rw [hb] at hn
    have e1 : rdSl M (rowA (some (g.N (p / 8) (p % 8 * 4 + j)))) 64 1 = some (bys 64 fun i => W (j * 64 + i)) := by rw [rowA_eq]; exact Src.of hn
    obtain ⟨a', m', e2, hA'⟩ := hA.app (u := fun i => W (j * 64 + i)) (l := 64) (by omega) (by unfold most; omega)
    simp (disch := omega) only [Option.bind_some, Option.map_some, cond_true, cond_false, wrap_i64, tmod_pos, tdiv_pos, inRange_yes, inUpto_yes, isZero_no, decide_eq_true, decide_eq_false, Bool.not_true, Bool.not_false, Int.toNat_natCast, Nat.mul_one, beqI_yes, beqI_no, bneI_yes, bneI_no, isNil_nil, isNil_iface, wr_wr, Option.isNone_none, Option.isNone_some, plus, Nat.zero_add, Nat.add_zero, decide_eq_true hj, refChunk_is hM hp, hM.ldNow hp, e1, e2]
    refine hnx (rr - 1) _ _ _ _ _ _ _ (by omega) ⟨rfl, rfl, j + 1, by omega, by omega, by omega, by omega, ?_⟩
    rw [show (j + 1) * 64 = j * 64 + 64 by omega]
    refine hA'.congr fun i hi => ?_
    by_cases h5 : i < j * 64
    · rw [if_pos h5]
    · rw [if_neg h5, show j * 64 + (i - j * 64) = i by omega]
  · obtain rfl : j = 4 := by omega
    simp (disch := omega) only [Option.bind_some, Option.map_some, cond_true, cond_false, wrap_i64, tmod_pos, tdiv_pos, inRange_yes, inUpto_yes, isZero_no, decide_eq_true, decide_eq_false, Bool.not_true, Bool.not_false, Int.toNat_natCast, Nat.mul_one, beqI_yes, beqI_no, bneI_yes, bneI_no, isNil_nil, isNil_iface, wr_wr, Option.isNone_none, Option.isNone_some, plus, Nat.zero_add, Nat.add_zero]
    rcases hA with ⟨hg, ⟨_, h5⟩ | ⟨d, rfl, hd, h5⟩⟩
    · omega
    · exact .some ⟨d, rfl, hg, hd, h5⟩

theorem refRead_no (k : Nat) {p : Int} (hp : ¬ (0 ≤ p ∧ p < 96)) : patinaref05_Chip_Read k (some ⟨r, 0, none⟩) p m = some (⟨none, 0, 0⟩, 1, m) := by
  unfold patinaref05_Chip_Read
  rw [refIsPage_is]
  simp (disch := omega) only [Option.bind_some, Option.map_some, cond_true, cond_false, wrap_i64, tmod_pos, tdiv_pos, inRange_yes, inUpto_yes, isZero_no, decide_eq_true, decide_eq_false, Bool.not_true, Bool.not_false, Int.toNat_natCast, Nat.mul_one, beqI_yes, beqI_no, bneI_yes, bneI_no, isNil_nil, isNil_iface, wr_wr, Option.isNone_none, Option.isNone_some, plus, Nat.zero_add, Nat.add_zero, decide_eq_false hp]
theorem refRead_off (k : Nat) {p : Int} (hp : 0 ≤ p ∧ p < 96) (ho : σ.off = true) : patinaref05_Chip_Read k (some ⟨r, 0, none⟩) p m = some (⟨none, 0, 0⟩, 7, m) := by
  unfold patinaref05_Chip_Read
  rw [refIsPage_is]
  simp (disch := omega) only [Option.bind_some, Option.map_some, cond_true, cond_false, wrap_i64, tmod_pos, tdiv_pos, inRange_yes, inUpto_yes, isZero_no, decide_eq_true, decide_eq_false, Bool.not_true, Bool.not_false, Int.toNat_natCast, Nat.mul_one, beqI_yes, beqI_no, bneI_yes, bneI_no, isNil_nil, isNil_iface, wr_wr, Option.isNone_none, Option.isNone_some, plus, Nat.zero_add, Nat.add_zero, decide_eq_true hp, h.ldOn, ho]
theorem refRead_ok (k : Nat) (hk : 64 < k) {p : Int} (hp : 0 ≤ p ∧ p < 96) (ho : σ.off = false) (hr : 0 ≤ (σ.b (p / 8)).reads ∧ (σ.b (p / 8)).reads < 4611686018427387904) {W : Nat → GF} (hW : ∀ (q i : Nat), q < 4 → i < 64 → (σ.at_ p q).now i = ((W (q * 64 + i)).v : Int)) :
    Ok (patinaref05_Chip_Read k (some ⟨r, 0, none⟩) p m) fun x => ∃ d, x.1 = ⟨some ⟨d, 0, some 1⟩, 256, 256⟩ ∧ x.2.1 = 0 ∧ RefX x.2.2 r lab g (σ.readd p) ∧ Ch (fun p => lab p ≠ none) m x.2.2 ∧ m.length ≤ d ∧ x.2.2[d]? = some (.live (bys 256 W)) := by
  unfold patinaref05_Chip_Read
  rw [refIsPage_is]
  have h0 := hp.1
  have h1 := hp.2
  obtain ⟨m', e1, e2, e3⟩ := h.setB (x := p / 8) (by omega) (by omega) (y := 1) (by omega) (v := .int .i64 ((σ.b (p / 8)).reads + 1)) (g.A (p / 8)) { σ.b (p / 8) with reads := (σ.b (p / 8)).reads + 1 } rfl rfl (h.at_ _ (by omega) (by omega))
  rw [upd_self] at e2
  have i1 : inRange (p / 8) 12 = true := inRange_yes (by omega) (by omega)
  simp (disch := omega) only [Option.bind_some, Option.map_some, cond_true, cond_false, wrap_i64, tmod_pos, tdiv_pos, inRange_yes, inUpto_yes, isZero_no, decide_eq_true, decide_eq_false, Bool.not_true, Bool.not_false, Int.toNat_natCast, Nat.mul_one, beqI_yes, beqI_no, bneI_yes, bneI_no, isNil_nil, isNil_iface, wr_wr, Option.isNone_none, Option.isNone_some, plus, Nat.zero_add, Nat.add_zero, decide_eq_true hp, h.ldOn, ho, h.ldB, i1, h.ldReads (show 0 ≤ p / 8 by omega) (show p / 8 < 12 by omega), e1]
  have e2' : RefX m' r lab g (σ.readd p) := e2
  refine .bind (refPage_ok e2' k hk h0 h1 (W := W) fun q i hq hi => by rw [readd_at]; exact hW q i hq hi) ?_
  rintro ⟨_, m2⟩ ⟨d, rfl, hg, hd, h2⟩
  simp only at hg h2 ⊢
  exact .some ⟨d, rfl, rfl, e2'.grow hg, e3.trans hg.ch, by have := e3.len; omega, h2⟩
end
/-! a chunk's cells -/
section
variable {f : Int → List Value} (hf : ∀ i, (f i).length = 4) {J : Int} (j0 : 0 ≤ J) (j1 : J < 32) {c4 : List Value} (h4 : c4.length = 4)
include hf j0 j1 h4
theorem lc_get {y : Nat} (hy : y < 4) : (farr 32 (upd f J c4))[J.toNat * 4 + y]? = c4[y]? := by
  have := farr_get (n := 32) (z := 4) (f := upd f J c4) (fun i _ _ => by unfold upd; split; exact h4; exact hf i) (i := J.toNat) (by omega) hy
  rw [Int.toNat_of_nonneg j0, upd_same] at this; exact this
theorem lc_set {y : Nat} (hy : y < 4) (v : Value) : (farr 32 (upd f J c4)).set (J.toNat * 4 + y) v = farr 32 (upd f J (c4.set y v)) := by
  have := farr_set (n := 32) (z := 4) (f := upd f J c4) (fun i _ _ => by unfold upd; split; exact h4; exact hf i) (i := J.toNat) (by omega) hy v
  rw [Int.toNat_of_nonneg j0, upd_same, upd_upd] at this; exact this
theorem lc_len : (farr 32 (upd f J c4)).length = 128 := farr_len (z := 4) fun i _ _ => by unfold upd; split; exact h4; exact hf i
theorem lc_st {M : Mem} {d y : Nat} (hM : M[d]? = some (.live (farr 32 (upd f J c4)))) (hy : y < 4) (v : Value) : st M ⟨d, J.toNat * 4 + y, some 4⟩ v = some (wr M d (farr 32 (upd f J (c4.set y v)))) := by
  rw [st_wr hM (by rw [lc_len hf j0 j1 h4]; omega), lc_set hf j0 j1 h4 hy]
end

section
variable {m : Mem} {r : Nat} {lab : Nat → Option Lab} {g : RG} {σ : ChipS} (h : RefX m r lab g σ)
include h
theorem refJ1_dec (k : Nat) {p : Int} (h0 : 0 ≤ p) (h1 : p < 96) (a3 : Option Addr) (n3 : Nat) (r4 : Option Addr × Mem) (ha : 0 ≤ g.A (p / 8)) (b' : Int) (hat : AtOk σ.steps (g.A (p / 8) - 1) b') :
    ∃ m', patinaref05_Chip_Write_j1 k p a3 n3 r4 ⟨g.q, 0, some 5⟩ m = patinaref05_Chip_Write_j2 k p a3 n3 r4 ⟨g.q, 0, some 5⟩ m' ∧ RefX m' r lab { g with A := upd g.A (p / 8) (g.A (p / 8) - 1) } (σ.updB (p / 8) { σ.b (p / 8) with before := b' }) ∧ Ch (fun p => lab p ≠ none) m m' := by
  have x0 : 0 ≤ p / 8 := by omega
  have x1 : p / 8 < 12 := by omega
  have hA := (h.at_ (p / 8) x0 x1).2
  obtain ⟨m', e1, e2, e3⟩ := h.setB x0 x1 (y := 3) (by omega) (v := .int .i64 (g.A (p / 8) - 1)) (g.A (p / 8) - 1) { σ.b (p / 8) with before := b' } rfl rfl hat
  refine ⟨m', ?_, e2, e3⟩
  unfold patinaref05_Chip_Write_j1
  simp (disch := omega) only [Option.bind_some, Option.map_some, cond_true, cond_false, wrap_i64, tmod_pos, tdiv_pos, inRange_yes, inUpto_yes, isZero_no, decide_eq_true, decide_eq_false, Bool.not_true, Bool.not_false, Int.toNat_natCast, Nat.mul_one, beqI_yes, beqI_no, bneI_yes, bneI_no, isNil_nil, isNil_iface, wr_wr, Option.isNone_none, Option.isNone_some, plus, Nat.zero_add, Nat.add_zero, h.ldAt x0 x1, e1]
theorem refJ1_no (k : Nat) {p : Int} (h0 : 0 ≤ p) (h1 : p < 96) (a3 : Option Addr) (n3 : Nat) (r4 : Option Addr × Mem) (ha : g.A (p / 8) < 0) :
    patinaref05_Chip_Write_j1 k p a3 n3 r4 ⟨g.q, 0, some 5⟩ m = patinaref05_Chip_Write_j2 k p a3 n3 r4 ⟨g.q, 0, some 5⟩ m := by
  have x0 : 0 ≤ p / 8 := by omega
  have x1 : p / 8 < 12 := by omega
  unfold patinaref05_Chip_Write_j1
  simp (disch := omega) only [Option.bind_some, Option.map_some, cond_true, cond_false, wrap_i64, tmod_pos, tdiv_pos, inRange_yes, inUpto_yes, isZero_no, decide_eq_true, decide_eq_false, Bool.not_true, Bool.not_false, Int.toNat_natCast, Nat.mul_one, beqI_yes, beqI_no, bneI_yes, bneI_no, isNil_nil, isNil_iface, wr_wr, Option.isNone_none, Option.isNone_some, plus, Nat.zero_add, Nat.add_zero, h.ldAt x0 x1]

theorem refJ2 (k : Nat) {p q : Int} (hp : isAt p q) {a : Option Addr} {w : Nat → GF} (hsrc : ∀ M : Mem, (∀ p0, p0 < m.length → lab p0 = none → M[p0]? = m[p0]?) → Src M a 64 w) (M4 : Mem) :
    ∃ m' lab' g', patinaref05_Chip_Write_j2 k p a 64 (some ⟨g.L (p / 8), (p % 8 * 4 + q).toNat * 4, some 4⟩, M4) ⟨g.q, 0, some 5⟩ m = some (if (σ.b (p / 8)).failed = true then 8 else 0, m') ∧
      RefX m' r lab' g' (if (σ.b (p / 8)).failed = true then σ else σ.put p q ⟨byI w, byI w, true, 0⟩) ∧ Lx m m' lab lab' := by
  obtain ⟨h0, h1, h2, h3⟩ := hp
  have x0 : 0 ≤ p / 8 := by omega
  have x1 : p / 8 < 12 := by omega
  unfold patinaref05_Chip_Write_j2
  cases hf : (σ.b (p / 8)).failed with
  | true =>
    refine ⟨m, lab, g, ?_, by simpa using h, .refl _ _⟩
    simp (disch := omega) only [Option.bind_some, Option.map_some, cond_true, cond_false, wrap_i64, tmod_pos, tdiv_pos, inRange_yes, inUpto_yes, isZero_no, decide_eq_true, decide_eq_false, Bool.not_true, Bool.not_false, Int.toNat_natCast, Nat.mul_one, beqI_yes, beqI_no, bneI_yes, bneI_no, isNil_nil, isNil_iface, wr_wr, Option.isNone_none, Option.isNone_some, plus, Nat.zero_add, Nat.add_zero, h.ldFailed x0 x1, hf]
    rfl
  | false =>
    have hlab := (h.ls (p / 8) x0 x1).2
    have hm0 := (h.ls (p / 8) x0 x1).1
    generalize hx : p / 8 = x at *
    generalize hJ : p % 8 * 4 + q = J at *
    have j0 : 0 ≤ J := by omega
    have j1 : J < 32 := by omega
    have hl : ∀ i, (rch (g.N x i) (g.T x i) ((σ.b x).ch i)).length = 4 := fun _ => rfl
    have e0 : rchs g x (σ.b x) = farr 32 (upd (fun j => rch (g.N x j) (g.T x j) ((σ.b x).ch j)) J (rch (g.N x J) (g.T x J) ((σ.b x).ch J))) := by rw [upd_self (fun j => rch (g.N x j) (g.T x j) ((σ.b x).ch j)) J]; rfl
    rw [e0] at hm0
    have llt := get_lt hm0
    generalize hfd : (fun j => rch (g.N x j) (g.T x j) ((σ.b x).ch j)) = f at *
    have hl' : ∀ i, (f i).length = 4 := fun i => by rw [← hfd]; rfl
    generalize hL : g.L x = D at *
    -- the stores, one behind the other
    have s1 := lc_st hl' j0 j1 (c4 := rch (g.N x J) (g.T x J) ((σ.b x).ch J)) rfl hm0 (y := 0) (by omega) (.slice none 0 0)
    have g1 := wr_get (cs := farr 32 (upd f J ((rch (g.N x J) (g.T x J) ((σ.b x).ch J)).set 0 (.slice none 0 0)))) hm0
    have n1 : ∀ p0, p0 ≠ D → (wr m D (farr 32 (upd f J ((rch (g.N x J) (g.T x J) ((σ.b x).ch J)).set 0 (.slice none 0 0)))))[p0]? = m[p0]? := fun p0 hn => wr_ne (Ne.symm hn)
    have z1 : (wr m D (farr 32 (upd f J ((rch (g.N x J) (g.T x J) ((σ.b x).ch J)).set 0 (.slice none 0 0))))).length = m.length := wr_len
    generalize wr m D (farr 32 (upd f J ((rch (g.N x J) (g.T x J) ((σ.b x).ch J)).set 0 (.slice none 0 0)))) = m1 at *
    have l1 : ldSl m1 ⟨D, J.toNat * 4, some 4⟩ = some ⟨none, 0, 0⟩ := ldSl_of g1 (lc_get (y := 0) hl' j0 j1 rfl (by omega))
    have r1 : rdSl m1 a 64 1 = some (bys 64 w) := hsrc m1 fun p0 _ hn => n1 p0 fun he => by rw [he, hlab] at hn; cases hn
    have a1 : appM 1 1 m1 none 0 0 64 (bys 64 w) = some (⟨some ⟨m1.length, 0, some 1⟩, 64, 64⟩, m1 ++ [.live (bys 64 w)]) := appM_first (by omega) (by unfold most; omega) (by unfold most; omega)
    rw [z1] at a1
    have g2 := get_grow (g := [.live (bys 64 w)]) g1
    have s2 := lc_st hl' j0 j1 rfl g2 (y := 0) (by omega) (.slice (some ⟨m.length, 0, some 1⟩) 64 64)
    have b2 := get_last (m := m1) (o := .live (bys 64 w)) z1
    have n2 : ∀ p0, p0 < m.length → p0 ≠ D → (wr (m1 ++ [.live (bys 64 w)]) D (farr 32 (upd f J (((rch (g.N x J) (g.T x J) ((σ.b x).ch J)).set 0 (.slice none 0 0)).set 0 (.slice (some ⟨m.length, 0, some 1⟩) 64 64)))))[p0]? = m[p0]? := fun p0 hp hn => by rw [wr_ne (Ne.symm hn), get_app_lt (by omega), n1 p0 hn]
    have g3 := wr_get (cs := farr 32 (upd f J (((rch (g.N x J) (g.T x J) ((σ.b x).ch J)).set 0 (.slice none 0 0)).set 0 (.slice (some ⟨m.length, 0, some 1⟩) 64 64)))) g2
    have b3 : (wr (m1 ++ [.live (bys 64 w)]) D (farr 32 (upd f J (((rch (g.N x J) (g.T x J) ((σ.b x).ch J)).set 0 (.slice none 0 0)).set 0 (.slice (some ⟨m.length, 0, some 1⟩) 64 64)))))[m.length]? = some (.live (bys 64 w)) := by rw [wr_ne (by omega)]; exact b2
    have z3 : (wr (m1 ++ [.live (bys 64 w)]) D (farr 32 (upd f J (((rch (g.N x J) (g.T x J) ((σ.b x).ch J)).set 0 (.slice none 0 0)).set 0 (.slice (some ⟨m.length, 0, some 1⟩) 64 64))))).length = m.length + 1 := by rw [wr_len]; simp [z1]
    generalize wr (m1 ++ [.live (bys 64 w)]) D (farr 32 (upd f J (((rch (g.N x J) (g.T x J) ((σ.b x).ch J)).set 0 (.slice none 0 0)).set 0 (.slice (some ⟨m.length, 0, some 1⟩) 64 64)))) = m3 at *
    have s4 := lc_st hl' j0 j1 rfl g3 (y := 1) (by omega) (.slice none 0 0)
    have g4 := wr_get (cs := farr 32 (upd f J ((((rch (g.N x J) (g.T x J) ((σ.b x).ch J)).set 0 (.slice none 0 0)).set 0 (.slice (some ⟨m.length, 0, some 1⟩) 64 64)).set 1 (.slice none 0 0)))) g3
    have n4 : ∀ p0, p0 < m.length + 1 → p0 ≠ D → (wr m3 D (farr 32 (upd f J ((((rch (g.N x J) (g.T x J) ((σ.b x).ch J)).set 0 (.slice none 0 0)).set 0 (.slice (some ⟨m.length, 0, some 1⟩) 64 64)).set 1 (.slice none 0 0)))))[p0]? = m3[p0]? := fun p0 _ hn => wr_ne (Ne.symm hn)
    have z4 : (wr m3 D (farr 32 (upd f J ((((rch (g.N x J) (g.T x J) ((σ.b x).ch J)).set 0 (.slice none 0 0)).set 0 (.slice (some ⟨m.length, 0, some 1⟩) 64 64)).set 1 (.slice none 0 0))))).length = m.length + 1 := by rw [wr_len]; exact z3
    generalize wr m3 D (farr 32 (upd f J ((((rch (g.N x J) (g.T x J) ((σ.b x).ch J)).set 0 (.slice none 0 0)).set 0 (.slice (some ⟨m.length, 0, some 1⟩) 64 64)).set 1 (.slice none 0 0)))) = m4 at *
    have l4 : ldSl m4 ⟨D, J.toNat * 4 + 1, some 4⟩ = some ⟨none, 0, 0⟩ := ldSl_of g4 (lc_get (y := 1) hl' j0 j1 rfl (by omega))
    have r4 : rdSl m4 a 64 1 = some (bys 64 w) := hsrc m4 fun p0 hp hn => by
      have hd : p0 ≠ D := fun he => by rw [he, hlab] at hn; cases hn
      rw [n4 p0 (by omega) hd, n2 p0 hp hd]
    have a4 : appM 1 1 m4 none 0 0 64 (bys 64 w) = some (⟨some ⟨m4.length, 0, some 1⟩, 64, 64⟩, m4 ++ [.live (bys 64 w)]) := appM_first (by omega) (by unfold most; omega) (by unfold most; omega)
    rw [z4] at a4
    have g5 := get_grow (g := [.live (bys 64 w)]) g4
    have b5 := get_last (m := m4) (o := .live (bys 64 w)) z4
    have s5 := lc_st hl' j0 j1 rfl g5 (y := 1) (by omega) (.slice (some ⟨m.length + 1, 0, some 1⟩) 64 64)
    have g6 := wr_get (cs := farr 32 (upd f J (((((rch (g.N x J) (g.T x J) ((σ.b x).ch J)).set 0 (.slice none 0 0)).set 0 (.slice (some ⟨m.length, 0, some 1⟩) 64 64)).set 1 (.slice none 0 0)).set 1 (.slice (some ⟨m.length + 1, 0, some 1⟩) 64 64)))) g5
    have s6 := lc_st hl' j0 j1 rfl g6 (y := 2) (by omega) (.bool true)
    rw [wr_wr] at s6
    have g7 := wr_get (cs := farr 32 (upd f J ((((((rch (g.N x J) (g.T x J) ((σ.b x).ch J)).set 0 (.slice none 0 0)).set 0 (.slice (some ⟨m.length, 0, some 1⟩) 64 64)).set 1 (.slice none 0 0)).set 1 (.slice (some ⟨m.length + 1, 0, some 1⟩) 64 64)).set 2 (.bool true)))) g5
    have s7 := lc_st hl' j0 j1 rfl g7 (y := 3) (by omega) (.int .i64 0)
    rw [wr_wr] at s7
    have hc : (((((((rch (g.N x J) (g.T x J) ((σ.b x).ch J)).set 0 (.slice none 0 0)).set 0 (.slice (some ⟨m.length, 0, some 1⟩) 64 64)).set 1 (.slice none 0 0)).set 1 (.slice (some ⟨m.length + 1, 0, some 1⟩) 64 64)).set 2 (.bool true)).set 3 (.int .i64 0)) = rch (m.length, true) (m.length + 1, true) ⟨byI w, byI w, true, 0⟩ := rfl
    rw [hc] at s7
    have hmf : ∀ p0, p0 < m.length → p0 ≠ D → (wr (m4 ++ [.live (bys 64 w)]) D (farr 32 (upd f J (rch (m.length, true) (m.length + 1, true) ⟨byI w, byI w, true, 0⟩))))[p0]? = m[p0]? := fun p0 hp hn => by
      rw [wr_ne (Ne.symm hn), get_app_lt (by omega), n4 p0 (by omega) hn, n2 p0 hp hn]
    let lab' : Nat → Option Lab := fun p0 => if p0 = m.length then some (.of x (.n J)) else if p0 = m.length + 1 then some (.of x (.t J)) else lab p0
    have llab : ∀ p0, lab p0 ≠ none → lab' p0 = lab p0 := fun p0 hp => by
      have := h.lt p0 hp
      show (if _ then _ else _) = _
      rw [if_neg (by omega), if_neg (by omega)]
    have lnew : ∀ p0, lab' p0 ≠ none → lab p0 ≠ none ∨ p0 = m.length ∨ p0 = m.length + 1 := fun p0 hp => by
      by_cases q1 : p0 = m.length
      · exact .inr (.inl q1)
      · by_cases q2 : p0 = m.length + 1
        · exact .inr (.inr q2)
        · left
          have : lab' p0 = lab p0 := by show (if _ then _ else _) = _; rw [if_neg q1, if_neg q2]
          rwa [← this]
    have zf : (wr (m4 ++ [.live (bys 64 w)]) D (farr 32 (upd f J (rch (m.length, true) (m.length + 1, true) ⟨byI w, byI w, true, 0⟩)))).length = m.length + 2 := by rw [wr_len]; simp [z4]
    have bf : (wr (m4 ++ [.live (bys 64 w)]) D (farr 32 (upd f J (rch (m.length, true) (m.length + 1, true) ⟨byI w, byI w, true, 0⟩))))[m.length]? = some (.live (bys 64 w)) := by
      rw [wr_ne (by omega), get_app_lt (by omega), n4 _ (by omega) (by omega)]; exact b3
    have bf1 : (wr (m4 ++ [.live (bys 64 w)]) D (farr 32 (upd f J (rch (m.length, true) (m.length + 1, true) ⟨byI w, byI w, true, 0⟩))))[m.length + 1]? = some (.live (bys 64 w)) := by
      rw [wr_ne (by omega)]; exact b5
    have gf := wr_get (cs := farr 32 (upd f J (rch (m.length, true) (m.length + 1, true) ⟨byI w, byI w, true, 0⟩))) g5
    refine ⟨wr (m4 ++ [.live (bys 64 w)]) D (farr 32 (upd f J (rch (m.length, true) (m.length + 1, true) ⟨byI w, byI w, true, 0⟩))), lab', { g with N := upd g.N x (upd (g.N x) J (m.length, true)), T := upd g.T x (upd (g.T x) J (m.length + 1, true)) }, ?_, ?_, ?_⟩
    · rw [Nat.add_zero] at s1 s2
      simp (disch := omega) only [Option.bind_some, Option.map_some, cond_true, cond_false, wrap_i64, tmod_pos, tdiv_pos, inRange_yes, inUpto_yes, isZero_no, decide_eq_true, decide_eq_false, Bool.not_true, Bool.not_false, Int.toNat_natCast, Nat.mul_one, beqI_yes, beqI_no, bneI_yes, bneI_no, isNil_nil, isNil_iface, wr_wr, Option.isNone_none, Option.isNone_some, plus, Nat.zero_add, Nat.add_zero, hx, h.ldFailed x0 x1, hf, s1, l1, r1, a1, s2, s4, l4, r4, a4, s5, s6, s7]
      rfl
    · rw [if_neg (by simp)]
      have key := h.chunk (i := x) (j := J) (lab' := lab') (n' := (m.length, true)) (t' := (m.length + 1, true)) (c' := ⟨byI w, byI w, true, 0⟩) (m' := wr (m4 ++ [.live (bys 64 w)]) D (farr 32 (upd f J (rch (m.length, true) (m.length + 1, true) ⟨byI w, byI w, true, 0⟩)))) x0 x1 j0 j1 ?_ llab ?_ ?_ ?_ ?_
      · unfold ChipS.put; rw [hx, hJ]; exact key
      · intro p0 hp
        rw [zf]
        rcases lnew p0 hp with q1 | q1 | q1
        · have := h.lt p0 q1; omega
        · omega
        · omega
      · intro p0 hp hn _
        rw [hL] at hn
        exact hmf p0 (h.lt p0 hp) hn
      · rw [hL, hfd]; exact gf
      · refine ⟨bf, ?_⟩
        show (if _ then _ else _) = _
        rw [if_pos rfl]
      · refine ⟨bf1, ?_⟩
        show (if _ then _ else _) = _
        rw [if_neg (by simp), if_pos rfl]
    · refine ⟨⟨by rw [zf]; omega, fun p0 hp hn => hmf p0 hp fun he => ?_⟩, llab, fun p0 hp => ?_⟩
      · subst he; exact hn (by rw [hlab]; simp)
      · rcases lnew p0 hp with q1 | q1 | q1
        · exact .inl q1
        · exact .inr (by omega)
        · exact .inr (by omega)

theorem refWrite_is (k : Nat) (hs : 0 ≤ σ.steps ∧ σ.steps < 4611686018427387904) (hb : 0 ≤ σ.budget ∧ σ.budget < 9223372036854775808) (hw : ∀ x, 0 ≤ (σ.b x).before ∧ (σ.b x).before < 9223372036854775808) (p q : Int) {a : Option Addr} {n cc : Nat} {w : Nat → GF}
    (hsrc : n = 64 → ∀ M : Mem, (∀ p0, p0 < m.length → lab p0 = none → M[p0]? = m[p0]?) → Src M a 64 w) :
    ∃ m' lab' g', patinaref05_Chip_Write k (some ⟨r, 0, none⟩) p q a n cc m = some ((σ.write p q n (byI w)).1, m') ∧ RefX m' r lab' g' (σ.write p q n (byI w)).2 ∧ Lx m m' lab lab' := by
  unfold patinaref05_Chip_Write
  rw [refIsPage_is]
  by_cases hp : isAt p q
  · have hp' := hp
    obtain ⟨h0, h1, h2, h3⟩ := hp'
    have x0 : 0 ≤ p / 8 := by omega
    have x1 : p / 8 < 12 := by omega
    by_cases hn : n = 64
    · subst hn
      have hsrc := hsrc rfl
      have e64 : (((64 : Nat) : Int) != 64) = false := rfl
      cases ho : σ.off with
      | true =>
        have ew : σ.write p q 64 (byI w) = (7, σ) := by unfold ChipS.write; rw [if_neg (fun h => h hp), if_neg (fun h => h rfl), if_pos ho]
        refine ⟨m, lab, g, ?_, by rw [ew]; exact h, .refl _ _⟩
        rw [ew]
        simp (disch := omega) only [Option.bind_some, Option.map_some, cond_true, cond_false, wrap_i64, tmod_pos, tdiv_pos, inRange_yes, inUpto_yes, isZero_no, decide_eq_true, decide_eq_false, Bool.not_true, Bool.not_false, Int.toNat_natCast, Nat.mul_one, beqI_yes, beqI_no, bneI_yes, bneI_no, isNil_nil, isNil_iface, wr_wr, Option.isNone_none, Option.isNone_some, plus, Nat.zero_add, Nat.add_zero, decide_eq_true (show 0 ≤ p ∧ p < 96 from ⟨h0, h1⟩), decide_eq_false (show ¬ q < 0 by omega), decide_eq_false (show ¬ q ≥ 4 by omega), e64, h.ldOn, ho]
      | false =>
        cases hi : (σ.at_ p q).is with
        | true =>
          have ew : σ.write p q 64 (byI w) = (9, σ) := by unfold ChipS.write; rw [if_neg (fun h => h hp), if_neg (fun h => h rfl), if_neg (by simp [ho]), if_pos hi]
          refine ⟨m, lab, g, ?_, by rw [ew]; exact h, .refl _ _⟩
          rw [ew]
          simp (disch := omega) only [Option.bind_some, Option.map_some, cond_true, cond_false, wrap_i64, tmod_pos, tdiv_pos, inRange_yes, inUpto_yes, isZero_no, decide_eq_true, decide_eq_false, Bool.not_true, Bool.not_false, Int.toNat_natCast, Nat.mul_one, beqI_yes, beqI_no, bneI_yes, bneI_no, isNil_nil, isNil_iface, wr_wr, Option.isNone_none, Option.isNone_some, plus, Nat.zero_add, Nat.add_zero, decide_eq_true (show 0 ≤ p ∧ p < 96 from ⟨h0, h1⟩), decide_eq_false (show ¬ q < 0 by omega), decide_eq_false (show ¬ q ≥ 4 by omega), e64, h.ldOn, ho, refChunk_is h hp, h.ldIs hp, hi]
        | false =>
          obtain ⟨s1, hR⟩ := refStep_is h k hs hb
          have hch := h.chHead (rhead g.q σ.step.2)
          have hb1 := step_b σ
          by_cases hst : σ.step.1 = 0
          · -- it is done
            have est : σ.step.2.steps = σ.steps + 1 := by
              unfold ChipS.step at hst ⊢
              split
              · split
                · rename_i q1 q2; rw [if_pos q1, if_pos q2] at hst; cases hst
                · rfl
              · rfl
            have hat := (h.at_ (p / 8) x0 x1)
            have hbx : σ.step.2.b (p / 8) = σ.b (p / 8) := by rw [hb1]
            generalize hτ : σ.step.2 = τ at *
            generalize hm1 : wr m r (rhead g.q τ) = m1 at *
            have hl1 : m1.length = m.length := by rw [← hm1, wr_len]
            have hwb := hw (p / 8)
            -- what is worn
            have wear : ∃ m2 g2, ((ldInt .i64 m1 ⟨g.q, (p / 8).toNat * 5 + 3, some 5⟩).bind fun t35 => bif t35 == 0 then ((st m1 ⟨g.q, (p / 8).toNat * 5 + 2, some 5⟩ (.bool true)).bind fun m36 => patinaref05_Chip_Write_j1 k p a 64 (some ⟨g.L (p / 8), (p % 8 * 4 + q).toNat * 4, some 4⟩, m) ⟨g.q, 0, some 5⟩ m36)
                else patinaref05_Chip_Write_j1 k p a 64 (some ⟨g.L (p / 8), (p % 8 * 4 + q).toNat * 4, some 4⟩, m) ⟨g.q, 0, some 5⟩ m1) = patinaref05_Chip_Write_j2 k p a 64 (some ⟨g2.L (p / 8), (p % 8 * 4 + q).toNat * 4, some 4⟩, m) ⟨g2.q, 0, some 5⟩ m2 ∧ RefX m2 r lab g2 (τ.updB (p / 8) (τ.b (p / 8)).worn) ∧ Ch (fun p => lab p ≠ none) m1 m2 := by
              rw [hR.ldAt x0 x1]
              obtain ⟨hat1, hat2, hat3⟩ := hat
              by_cases za : g.A (p / 8) = 0
              · have hbf : (τ.b (p / 8)).before = 1 := by rw [hbx]; omega
                obtain ⟨m2, e1, e2, e3⟩ := hR.setB x0 x1 (y := 2) (by omega) (v := .bool true) (g.A (p / 8)) { τ.b (p / 8) with failed := true } rfl rfl (hR.at_ _ x0 x1)
                rw [upd_self] at e2
                obtain ⟨m3, f1, f2, f3⟩ := refJ1_dec e2 k h0 h1 a 64 (some ⟨g.L (p / 8), (p % 8 * 4 + q).toNat * 4, some 4⟩, m) (by show 0 ≤ g.A (p / 8); omega) ((τ.b (p / 8)).before - 1) (by
                  refine ⟨.inl ?_, ?_, ?_⟩
                  · show g.A (p / 8) - 1 + 1 = _; omega
                  · show -1 ≤ g.A (p / 8) - 1; omega
                  · show g.A (p / 8) - 1 < _; omega)
                refine ⟨m3, { g with A := upd g.A (p / 8) (g.A (p / 8) - 1) }, ?_, ?_, e3.trans f3⟩
                · rw [Option.bind_some, beqI_yes za, cond_true, e1, Option.bind_some, f1]
                · have e4 : (τ.updB (p / 8) { τ.b (p / 8) with failed := true }).updB (p / 8) { (τ.updB (p / 8) { τ.b (p / 8) with failed := true }).b (p / 8) with before := (τ.b (p / 8)).before - 1 } = τ.updB (p / 8) (τ.b (p / 8)).worn := by
                    rw [put_b]
                    congr 1
                    show ({ upd τ.b (p / 8) _ (p / 8) with before := _ } : BlockS) = _
                    rw [upd_same]
                    unfold BlockS.worn
                    rw [if_pos (by omega), hbf]
                    simp
                  rw [e4] at f2
                  exact f2
              · by_cases na : 0 ≤ g.A (p / 8)
                · have hbf : (τ.b (p / 8)).before > 1 := by rw [hbx]; omega
                  obtain ⟨m3, f1, f2, f3⟩ := refJ1_dec hR k h0 h1 a 64 (some ⟨g.L (p / 8), (p % 8 * 4 + q).toNat * 4, some 4⟩, m) na ((τ.b (p / 8)).before - 1) (by rw [hbx]; exact ⟨by omega, by omega, by omega⟩)
                  refine ⟨m3, { g with A := upd g.A (p / 8) (g.A (p / 8) - 1) }, ?_, ?_, f3⟩
                  · rw [Option.bind_some, beqI_no za, cond_false, f1]
                  · have e4 : ({ τ.b (p / 8) with before := (τ.b (p / 8)).before - 1 } : BlockS) = (τ.b (p / 8)).worn := by
                      unfold BlockS.worn
                      rw [if_pos (by omega), beqI_no (show (τ.b (p / 8)).before - 1 ≠ 0 by omega), Bool.or_false]
                    rw [e4] at f2
                    exact f2
                · refine ⟨m1, g, ?_, ?_, .refl _ _⟩
                  · rw [Option.bind_some, beqI_no za, cond_false, refJ1_no hR k h0 h1 _ _ _ (by omega)]
                  · have e4 : (τ.b (p / 8)).worn = τ.b (p / 8) := by unfold BlockS.worn; rw [if_neg (by rw [hbx]; omega)]
                    rw [e4]
                    have : τ.updB (p / 8) (τ.b (p / 8)) = τ := by unfold ChipS.updB; rw [upd_self]
                    rw [this]; exact hR
            obtain ⟨m2, g2, w1, w2, w3⟩ := wear
            have hl2 := w3.len
            obtain ⟨m3, lab', g3, v1, v2, v3⟩ := refJ2 w2 k hp (a := a) (w := w) (fun M hM => hsrc M fun p0 hp hn => by
              rw [hM p0 (by omega) hn, w3.get p0 (by omega) (fun h => h hn), hch.get p0 hp (fun h => h hn)]) m
            have hwf : ((τ.updB (p / 8) (τ.b (p / 8)).worn).b (p / 8)) = (τ.b (p / 8)).worn := upd_same _ _ _
            rw [hwf] at v1 v2
            have ew : σ.write p q 64 (byI w) = if (τ.b (p / 8)).worn.failed = true then (8, τ.updB (p / 8) (τ.b (p / 8)).worn) else (0, (τ.updB (p / 8) (τ.b (p / 8)).worn).put p q ⟨byI w, byI w, true, 0⟩) := by
              unfold ChipS.write; rw [if_neg (fun h => h hp), if_neg (fun h => h rfl), if_neg (by simp [ho]), if_neg (by simp [hi]), if_neg (fun h => h hst), hτ]
            refine ⟨m3, lab', g3, ?_, ?_, (Lx.of (hch.trans w3)).trans v3⟩
            · have i1 : inRange (p / 8) 12 = true := inRange_yes (by omega) (by omega)
              rw [ew]
              simp (disch := omega) only [Option.bind_some, Option.map_some, cond_true, cond_false, wrap_i64, tmod_pos, tdiv_pos, inRange_yes, inUpto_yes, isZero_no, decide_eq_true, decide_eq_false, Bool.not_true, Bool.not_false, Int.toNat_natCast, Nat.mul_one, beqI_yes, beqI_no, bneI_yes, bneI_no, isNil_nil, isNil_iface, wr_wr, Option.isNone_none, Option.isNone_some, plus, Nat.zero_add, Nat.add_zero, decide_eq_true (show 0 ≤ p ∧ p < 96 from ⟨h0, h1⟩), decide_eq_false (show ¬ q < 0 by omega), decide_eq_false (show ¬ q ≥ 4 by omega), e64, h.ldOn, ho, refChunk_is h hp, h.ldIs hp, hi, s1, decide_eq_true hst, hR.ldB, i1]
              rw [w1, v1]
              split <;> rfl
            · rw [ew]
              split
              · rename_i q1; rw [if_pos q1] at v2; exact v2
              · rename_i q1; rw [if_neg q1] at v2; exact v2
          · have ew : σ.write p q 64 (byI w) = (7, σ.step.2) := by
              unfold ChipS.write; rw [if_neg (fun h => h hp), if_neg (fun h => h rfl), if_neg (by simp [ho]), if_neg (by simp [hi]), if_pos hst]
              unfold ChipS.step at hst ⊢
              split
              · split
                · rfl
                · rename_i q1 q2; rw [if_pos q1, if_neg q2] at hst; exact absurd rfl hst
              · rename_i q1; rw [if_neg q1] at hst; exact absurd rfl hst
            refine ⟨_, lab, g, ?_, by rw [ew]; exact hR, Lx.of hch⟩
            rw [ew]
            simp (disch := omega) only [Option.bind_some, Option.map_some, cond_true, cond_false, wrap_i64, tmod_pos, tdiv_pos, inRange_yes, inUpto_yes, isZero_no, decide_eq_true, decide_eq_false, Bool.not_true, Bool.not_false, Int.toNat_natCast, Nat.mul_one, beqI_yes, beqI_no, bneI_yes, bneI_no, isNil_nil, isNil_iface, wr_wr, Option.isNone_none, Option.isNone_some, plus, Nat.zero_add, Nat.add_zero, decide_eq_true (show 0 ≤ p ∧ p < 96 from ⟨h0, h1⟩), decide_eq_false (show ¬ q < 0 by omega), decide_eq_false (show ¬ q ≥ 4 by omega), e64, h.ldOn, ho, refChunk_is h hp, h.ldIs hp, hi, s1, decide_eq_false hst]
    · have ew : σ.write p q n (byI w) = (1, σ) := by unfold ChipS.write; rw [if_neg (fun h => h hp), if_pos hn]
      have en : (((n : Nat) : Int) != 64) = true := bneI_yes (by omega)
      refine ⟨m, lab, g, ?_, by rw [ew]; exact h, .refl _ _⟩
      rw [ew]
      simp (disch := omega) only [Option.bind_some, Option.map_some, cond_true, cond_false, wrap_i64, tmod_pos, tdiv_pos, inRange_yes, inUpto_yes, isZero_no, decide_eq_true, decide_eq_false, Bool.not_true, Bool.not_false, Int.toNat_natCast, Nat.mul_one, beqI_yes, beqI_no, bneI_yes, bneI_no, isNil_nil, isNil_iface, wr_wr, Option.isNone_none, Option.isNone_some, plus, Nat.zero_add, Nat.add_zero, decide_eq_true (show 0 ≤ p ∧ p < 96 from ⟨h0, h1⟩), decide_eq_false (show ¬ q < 0 by omega), decide_eq_false (show ¬ q ≥ 4 by omega), en]
  · have ew : σ.write p q n (byI w) = (1, σ) := by unfold ChipS.write; rw [if_pos hp]
    refine ⟨m, lab, g, ?_, by rw [ew]; exact h, .refl _ _⟩
    rw [ew]
    by_cases h0 : 0 ≤ p ∧ p < 96
    · by_cases h1 : q < 0
      · simp (disch := omega) only [Option.bind_some, Option.map_some, cond_true, cond_false, wrap_i64, tmod_pos, tdiv_pos, inRange_yes, inUpto_yes, isZero_no, decide_eq_true, decide_eq_false, Bool.not_true, Bool.not_false, Int.toNat_natCast, Nat.mul_one, beqI_yes, beqI_no, bneI_yes, bneI_no, isNil_nil, isNil_iface, wr_wr, Option.isNone_none, Option.isNone_some, plus, Nat.zero_add, Nat.add_zero, decide_eq_true h0, decide_eq_true h1]
      · simp (disch := omega) only [Option.bind_some, Option.map_some, cond_true, cond_false, wrap_i64, tmod_pos, tdiv_pos, inRange_yes, inUpto_yes, isZero_no, decide_eq_true, decide_eq_false, Bool.not_true, Bool.not_false, Int.toNat_natCast, Nat.mul_one, beqI_yes, beqI_no, bneI_yes, bneI_no, isNil_nil, isNil_iface, wr_wr, Option.isNone_none, Option.isNone_some, plus, Nat.zero_add, Nat.add_zero, decide_eq_true h0, decide_eq_false h1, decide_eq_true (show q ≥ 4 by unfold isAt at hp; omega)]
    · simp (disch := omega) only [Option.bind_some, Option.map_some, cond_true, cond_false, wrap_i64, tmod_pos, tdiv_pos, inRange_yes, inUpto_yes, isZero_no, decide_eq_true, decide_eq_false, Bool.not_true, Bool.not_false, Int.toNat_natCast, Nat.mul_one, beqI_yes, beqI_no, bneI_yes, bneI_no, isNil_nil, isNil_iface, wr_wr, Option.isNone_none, Option.isNone_some, plus, Nat.zero_add, Nat.add_zero, decide_eq_false h0]
end
end Go.Proofs.Ytlbbcgjfkpnilaa
