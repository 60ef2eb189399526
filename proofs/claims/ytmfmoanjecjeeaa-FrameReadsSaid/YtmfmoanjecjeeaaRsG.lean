/- What a codec's functions do: the generator, made once; the codeword of a message; a word's sums. -/
import Derived.Test.YtmfmoanjecjeeaaRsF
import Derived.Test.YtmfmoanjecjeeaaFrs
set_option linter.unusedVariables false
set_option linter.unusedSectionVars false
set_option linter.unusedSimpArgs false
namespace Go.Proofs.Ytmfmoanjecjeeaa
open Go.Mx

theorem bys_stc {m : Mem} {d n : Nat} {w u : Nat → GF} {sp : Option Nat} (h : m[d]? = some (.live (bys n w))) {o l : Nat} (hl : o + l ≤ n) : stCells m ⟨d, o, sp⟩ (bys l u) = some (wr m d (bys n fun i => if o ≤ i ∧ i < o + l then u (i - o) else w i)) := by
  rw [stCells_wr h (by rw [bys_len, bys_len]; exact hl)]
  congr 2
  apply List.ext_getElem?
  intro k
  rw [bys_len]
  by_cases hk : k < n
  · rw [bys_get hk]
    by_cases h1 : k < o
    · rw [if_neg (by omega), List.append_assoc, List.getElem?_append_left (by rw [List.length_take, bys_len]; omega), List.getElem?_take, if_pos h1, bys_get hk]
    · by_cases h2 : k < o + l
      · rw [if_pos (by omega), List.append_assoc, List.getElem?_append_right (by rw [List.length_take, bys_len]; omega), List.length_take, bys_len, Nat.min_eq_left (by omega), List.getElem?_append_left (by rw [bys_len]; omega), bys_get (by omega)]
      · rw [if_neg (by omega), List.getElem?_append_right (by rw [List.length_append, List.length_take, bys_len, bys_len]; omega), List.length_append, List.length_take, bys_len, bys_len, Nat.min_eq_left (by omega), List.getElem?_drop, show o + l + (k - (o + l)) = k by omega, bys_get hk]
  · rw [List.getElem?_eq_none (by simp only [List.length_append, List.length_take, List.length_drop, bys_len]; omega), List.getElem?_eq_none (by rw [bys_len]; omega)]
theorem bys_ldc {m : Mem} {d n : Nat} {w : Nat → GF} {sp : Option Nat} (h : m[d]? = some (.live (bys n w))) : ldCells m ⟨d, 0, sp⟩ n = some (bys n w) := by
  rw [ldCells_of h (by rw [bys_len]; omega), List.drop_zero, List.take_of_length_le (by rw [bys_len]; omega)]

/-! ## products of polynomials, and the generator -/
def tin (q : Nat → GF) (x : GF) (i : Nat) (o : Nat → GF) : Nat → Nat → GF
  | 0 => o
  | k + 1 => put (tin q x i o k) (i + k) (tin q x i o k (i + k) + x * q k)
def tout (p q : Nat → GF) (n : Nat) : Nat → Nat → GF
  | 0 => fun _ => 0
  | i + 1 => tin q (p i) i (tout p q n i) n
theorem times_is (k : Nat) {m : Mem} {f : Nat} (h : m[f]? = some (.live fldR)) {a b : Option Addr} {n1 n2 c1 c2 : Nat} {p q : Nat → GF} (hp : Src m a n1 p) (hq : Src m b n2 q) (h1 : 0 < n1 ∧ n1 < 1000) (h2 : 0 < n2 ∧ n2 < 1000) (hk : 1000 < k) :
    field_Field_Times k (some ⟨f, 0, none⟩) a n1 c1 b n2 c2 m = some (⟨some ⟨m.length, 0, none⟩, n1 + n2 - 1, n1 + n2 - 1⟩, m ++ [.live (bys (n1 + n2 - 1) (tout p q n2 n1))]) := by
  have key : Ok (field_Field_Times k (some ⟨f, 0, none⟩) a n1 c1 b n2 c2 m) fun r => r = (⟨some ⟨m.length, 0, none⟩, n1 + n2 - 1, n1 + n2 - 1⟩, m ++ [.live (bys (n1 + n2 - 1) (tout p q n2 n1))]) := by
    unfold field_Field_Times
    have hb : (tt 5).bytes = 1 := by kernel_rfl
    have hn : ((n1 : Int) + n2 - 1).toNat = n1 + n2 - 1 := by omega
    have hd1 : decide (0 ≤ (n1 : Int) + n2 - 1) = true := decide_eq_true (by omega)
    have hd2 : decide ((n1 : Int) + n2 - 1 ≤ (n1 : Int) + n2 - 1) = true := decide_eq_true (by omega)
    have hd3 : decide (((n1 : Int) + n2 - 1) * ((1 : Nat) : Int) ≤ ((most : Nat) : Int)) = true := decide_eq_true (by unfold most; omega)
    have hd4 : decide ((n1 : Int) + n2 - 1 ≤ ((most : Nat) : Int)) = true := decide_eq_true (by unfold most; omega)
    simp (disch := omega) only [Option.bind_some, Option.map_some, cond_true, cond_false, wrap_i64, tmod_pos, tdiv_pos, inRange_yes, inUpto_yes, isZero_no, decide_eq_true, decide_eq_false, Bool.not_true, Bool.not_false, Int.toNat_natCast, Nat.mul_one, beqI_yes, beqI_no, bneI_yes, bneI_no, isNil_nil, isNil_iface, wr_wr, Option.isNone_none, Option.isNone_some, plus, Nat.zero_add, Nat.add_zero, hb, hn, hd1, hd2, hd3, hd4, Bool.and_self, bys_zero]
    refine field_Field_Times_l0_rule k _ (fun r x0 x2a x2n x2c x7a x7n x7c x27a x27n x27c x28 x29 m' => (some ⟨f, 0, none⟩ : Option Addr) = x0 ∧ b = x2a ∧ n2 = x2n ∧ c2 = x2c ∧ (some ⟨m.length, 0, none⟩ : Option Addr) = x7a ∧ n1 + n2 - 1 = x7n ∧ n1 + n2 - 1 = x7c ∧ a = x27a ∧ n1 = x27n ∧ c1 = x27c ∧ (n1 : Int) = x28 ∧
      ∃ i : Nat, x29 = i ∧ i + r = n1 ∧ m' = m ++ [.live (bys (n1 + n2 - 1) (tout p q n2 i))]) ?_ k n1 _ _ _ _ _ _ _ _ _ _ _ _ _ (by omega) ⟨rfl, rfl, rfl, rfl, rfl, rfl, rfl, rfl, rfl, rfl, rfl, 0, rfl, by omega, rfl⟩
    rintro r nx _ _ _ _ _ _ _ _ _ _ _ _ _ ⟨rfl, rfl, rfl, rfl, rfl, rfl, rfl, rfl, rfl, rfl, rfl, i, rfl, hr, rfl⟩ hnx
    unfold field_Field_Times_l0_b
    by_cases hi : (i : Int) < n1
    · obtain ⟨ad, rfl, e1⟩ := (hp.grow (Gr.app m [.live (bys (n1 + n2 - 1) (tout p q n2 i))])).ld (i := i) (by omega)
      unfold plus at e1
      simp (disch := omega) only [Option.bind_some, Option.map_some, cond_true, cond_false, wrap_i64, tmod_pos, tdiv_pos, inRange_yes, inUpto_yes, isZero_no, decide_eq_true, decide_eq_false, Bool.not_true, Bool.not_false, Int.toNat_natCast, Nat.mul_one, beqI_yes, beqI_no, bneI_yes, bneI_no, isNil_nil, isNil_iface, wr_wr, Option.isNone_none, Option.isNone_some, plus, Nat.zero_add, Nat.add_zero, e1]
      refine field_Field_Times_l2_rule k _ (fun r x0 x2a x2n x2c x7a x7n x7c x8 x9 x27a x27n x27c x28 x29 x34a x34n x34c x35 x36 m' => (some ⟨f, 0, none⟩ : Option Addr) = x0 ∧ b = x2a ∧ n2 = x2n ∧ c2 = x2c ∧ (some ⟨m.length, 0, none⟩ : Option Addr) = x7a ∧ n1 + n2 - 1 = x7n ∧ n1 + n2 - 1 = x7c ∧ (i : Int) = x8 ∧ ((p i).v : Int) = x9 ∧ some ad = x27a ∧ n1 = x27n ∧ c1 = x27c ∧ (n1 : Int) = x28 ∧ (i : Int) = x29 ∧
        b = x34a ∧ n2 = x34n ∧ c2 = x34c ∧ (n2 : Int) = x35 ∧ ∃ j : Nat, x36 = j ∧ j + r = n2 ∧ m' = m ++ [.live (bys (n1 + n2 - 1) (tin q (p i) i (tout p q n2 i) j))]) ?_ k n2 _ _ _ _ _ _ _ _ _ _ _ _ _ _ _ _ _ _ _ _ (by omega)
        ⟨rfl, rfl, rfl, rfl, rfl, rfl, rfl, rfl, rfl, rfl, rfl, rfl, rfl, rfl, rfl, rfl, rfl, rfl, 0, rfl, by omega, rfl⟩
      rintro r' nx' _ _ _ _ _ _ _ _ _ _ _ _ _ _ _ _ _ _ _ _ ⟨rfl, rfl, rfl, rfl, rfl, rfl, rfl, rfl, rfl, rfl, rfl, rfl, rfl, rfl, rfl, rfl, rfl, rfl, j, rfl, hr', rfl⟩ hnx'
      unfold field_Field_Times_l2_b
      by_cases hj : (j : Int) < n2
      · generalize hT : tin q (p i) i (tout p q n2 i) j = o at *
        obtain ⟨bd, rfl, e2⟩ := (hq.grow (Gr.app m [.live (bys (n1 + n2 - 1) o)])).ld (i := j) (by omega)
        unfold plus at e2
        have hl := get_last (m := m) (o := .live (bys (n1 + n2 - 1) o)) rfl
        have e3 := bys_ld (sp := none) hl (i := i + j) (by omega)
        have e4 := bys_st (sp := none) hl (i := i + j) (by omega) (o (i + j) + p i * q j)
        have hm := mul_is k (get_grow (g := [.live (bys (n1 + n2 - 1) o)]) h) (p i) (q j)
        have hij : ((i : Int) + j).toNat = i + j := by omega
        have h3 : inRange ((i : Int) + j) (n1 + n2 - 1) = true := inRange_yes (by omega) (by omega)
        rw [wr_last rfl] at e4
        simp (disch := omega) only [Option.bind_some, Option.map_some, cond_true, cond_false, wrap_i64, tmod_pos, tdiv_pos, inRange_yes, inUpto_yes, isZero_no, decide_eq_true, decide_eq_false, Bool.not_true, Bool.not_false, Int.toNat_natCast, Nat.mul_one, beqI_yes, beqI_no, bneI_yes, bneI_no, isNil_nil, isNil_iface, wr_wr, Option.isNone_none, Option.isNone_some, plus, Nat.zero_add, Nat.add_zero, e2, hij, h3, e3, hm, xor_v, e4, beq_self_eq_true]
        exact hnx' (r' - 1) _ _ _ _ _ _ _ _ _ _ _ _ _ _ _ _ _ _ _ _ (by omega) ⟨rfl, rfl, rfl, rfl, rfl, rfl, rfl, rfl, rfl, rfl, rfl, rfl, rfl, rfl, rfl, rfl, rfl, rfl, j + 1, by omega, by omega, by rw [tin, hT]⟩
      · obtain rfl : j = n2 := by omega
        simp (disch := omega) only [Option.bind_some, Option.map_some, cond_true, cond_false, wrap_i64, tmod_pos, tdiv_pos, inRange_yes, inUpto_yes, isZero_no, decide_eq_true, decide_eq_false, Bool.not_true, Bool.not_false, Int.toNat_natCast, Nat.mul_one, beqI_yes, beqI_no, bneI_yes, bneI_no, isNil_nil, isNil_iface, wr_wr, Option.isNone_none, Option.isNone_some, plus, Nat.zero_add, Nat.add_zero]
        exact hnx (r - 1) _ _ _ _ _ _ _ _ _ _ _ _ _ (by omega) ⟨rfl, rfl, rfl, rfl, rfl, rfl, rfl, rfl, rfl, rfl, rfl, i + 1, by omega, by omega, rfl⟩
    · obtain rfl : i = n1 := by omega
      simp (disch := omega) only [Option.bind_some, Option.map_some, cond_true, cond_false, wrap_i64, tmod_pos, tdiv_pos, inRange_yes, inUpto_yes, isZero_no, decide_eq_true, decide_eq_false, Bool.not_true, Bool.not_false, Int.toNat_natCast, Nat.mul_one, beqI_yes, beqI_no, bneI_yes, bneI_no, isNil_nil, isNil_iface, wr_wr, Option.isNone_none, Option.isNone_some, plus, Nat.zero_add, Nat.add_zero]
      exact .some rfl
  obtain ⟨r, h1, rfl⟩ := key
  exact h1

def lin (j : Nat) : Nat → GF := fun i => if i = 0 then 1 else GF.pw j
def gens : Nat → Nat → GF
  | 0 => fun _ => 1
  | j + 1 => tout (gens j) (lin j) 2 (j + 1)
def gC : Nat → GF := fun i => gens 6 (1 + i)
theorem gC_all : (List.range 6).all (fun j => GF.hor gC (GF.pw j) 6 == GF.pw j * (GF.pw j * (GF.pw j * (GF.pw j * (GF.pw j * GF.pw j))))) = true := by decide +kernel
theorem gC_gen : GF.Gen gC := fun j hj => by
  have := List.all_eq_true.1 gC_all j (List.mem_range.2 hj)
  exact beq_iff_eq.1 this

/-- a codec -/
def Cod (m : Mem) (c : Nat) : Prop := ∃ f b, m[c]? = some (.live [.pointer (some ⟨f, 0, none⟩), .slice (some ⟨b, 1, none⟩) 6 6]) ∧ m[f]? = some (.live fldR) ∧ m[b]? = some (.live (bys 7 (gens 6)))
theorem Cod.grow {m m' : Mem} {c : Nat} (h : Cod m c) (hg : Gr m m') : Cod m' c := by
  obtain ⟨f, b, h1, h2, h3⟩ := h
  exact ⟨f, b, hg.get h1, hg.get h2, hg.get h3⟩

theorem fieldNew_is (k : Nat) (m : Mem) : field_New k m = some (some ⟨m.length, 0, none⟩, m ++ [.live fldZ]) := by
  unfold field_New
  rw [field_zero]
  have : Nat.beq fldZ.length 769 = true := by unfold fldZ; rw [fieldC_len]; rfl
  simp (disch := omega) only [Option.bind_some, Option.map_some, cond_true, cond_false, wrap_i64, tmod_pos, tdiv_pos, inRange_yes, inUpto_yes, isZero_no, decide_eq_true, decide_eq_false, Bool.not_true, Bool.not_false, Int.toNat_natCast, Nat.mul_one, beqI_yes, beqI_no, bneI_yes, bneI_no, isNil_nil, isNil_iface, wr_wr, Option.isNone_none, Option.isNone_some, plus, Nat.zero_add, Nat.add_zero, this]

theorem rsNew_ok (k : Nat) (hk : 1000 < k) (m : Mem) : Ok (rs_New k m) fun r => ∃ c, r.1 = some ⟨c, 0, none⟩ ∧ Gr m r.2 ∧ m.length ≤ c ∧ Cod r.2 c := by
  unfold rs_New
  simp (disch := omega) only [Option.bind_some, Option.map_some, cond_true, cond_false, wrap_i64, tmod_pos, tdiv_pos, inRange_yes, inUpto_yes, isZero_no, decide_eq_true, decide_eq_false, Bool.not_true, Bool.not_false, Int.toNat_natCast, Nat.mul_one, beqI_yes, beqI_no, bneI_yes, bneI_no, isNil_nil, isNil_iface, wr_wr, Option.isNone_none, Option.isNone_some, plus, Nat.zero_add, Nat.add_zero, fieldNew_is]
  refine rs_New_l0_rule k _ (fun r x1 x2a x2n x2c x6 m' => (some ⟨m.length, 0, none⟩ : Option Addr) = x1 ∧ ∃ j d : Nat, x6 = j ∧ j + r = 6 ∧ (some ⟨d, 0, none⟩ : Option Addr) = x2a ∧ j + 1 = x2n ∧ j + 1 = x2c ∧ Gr m m' ∧ m.length < d ∧ m'[d]? = some (.live (bys (j + 1) (gens j))) ∧ m'[m.length]? = some (.live (if j = 0 then fldZ else fldR))) ?_ k 6 _ _ _ _ _ _ (by omega)
    ⟨rfl, 0, _, rfl, by omega, rfl, rfl, rfl, (Gr.app _ _).trans (Gr.app _ _), by simp, get_last rfl, get_grow (get_last rfl)⟩
  rintro r nx _ _ _ _ _ m' ⟨rfl, j, d, rfl, hr, rfl, rfl, rfl, hG, hd, h1, h2⟩ hnx
  unfold rs_New_l0_b
  by_cases hj : (j : Int) < 6
  · -- the field is made, if it is not
    have h2' : ∃ m2, field_Field_Exp k (some ⟨m.length, 0, none⟩) (j : Int) m' = some (((GF.pw j).v : Int), m2) ∧ Gr m m2 ∧ m2[d]? = some (.live (bys (j + 1) (gens j))) ∧ m2[m.length]? = some (.live fldR) ∧ m'.length = m2.length := by
      by_cases h0 : j = 0
      · rw [if_pos h0] at h2
        exact ⟨_, exp_first k (by omega) h2 j (by omega), hG.wr (Nat.le_refl _) _, by rw [wr_ne (by omega)]; exact h1, wr_get h2, wr_len.symm⟩
      · rw [if_neg h0] at h2
        exact ⟨_, exp_is k h2 j (by omega), hG, h1, h2, rfl⟩
    obtain ⟨m2, e1, hG2, h3, h4, _⟩ := h2'
    have hlin : [Value.int .u8 1, .int .u8 ((GF.pw j).v : Int)] = bys 2 (lin j) := rfl
    have e2 := times_is k (get_grow (g := [.live (bys 2 (lin j))]) h4) (c1 := j + 1) (c2 := 2) (Src.of (sp := none) (get_grow (g := [.live (bys 2 (lin j))]) h3)) (Src.of (sp := none) (get_last (m := m2) (o := .live (bys 2 (lin j))) rfl)) (by omega) (by omega) hk
    simp (disch := omega) only [Option.bind_some, Option.map_some, cond_true, cond_false, wrap_i64, tmod_pos, tdiv_pos, inRange_yes, inUpto_yes, isZero_no, decide_eq_true, decide_eq_false, Bool.not_true, Bool.not_false, Int.toNat_natCast, Nat.mul_one, beqI_yes, beqI_no, bneI_yes, bneI_no, isNil_nil, isNil_iface, wr_wr, Option.isNone_none, Option.isNone_some, plus, Nat.zero_add, Nat.add_zero, e1, hlin, e2]
    have hl : (m2 ++ [MObj.live (bys 2 (lin j))]).length = m2.length + 1 := by simp
    have hl2 := hG2.len
    refine hnx (r - 1) _ _ _ _ _ _ (by omega) ⟨rfl, j + 1, _, by omega, by omega, rfl, by omega, by omega, (hG2.trans (Gr.app _ _)).trans (Gr.app _ _), by omega, get_last rfl, ?_⟩
    rw [if_neg (by omega)]
    exact get_grow (get_grow h4)
  · obtain rfl : j = 6 := by omega
    have ho : sliceK.okZ (some ⟨d, 0, none⟩) 1 false = true := rfl
    have hc : sliceK.clear (some ⟨d, 0, none⟩) false = some ⟨d, 0, none⟩ := rfl
    have t1 : Int.toNat 1 = 1 := rfl
    simp (disch := omega) only [Option.bind_some, Option.map_some, cond_true, cond_false, wrap_i64, tmod_pos, tdiv_pos, inRange_yes, inUpto_yes, isZero_no, decide_eq_true, decide_eq_false, Bool.not_true, Bool.not_false, Int.toNat_natCast, Nat.mul_one, beqI_yes, beqI_no, bneI_yes, bneI_no, isNil_nil, isNil_iface, wr_wr, Option.isNone_none, Option.isNone_some, plus, Nat.zero_add, Nat.add_zero, ho, hc, Bool.and_self, t1]
    exact .some ⟨m'.length, rfl, hG.trans (Gr.app _ _), hG.len, m.length, d, get_last rfl, get_grow h2, get_grow h1⟩

section
variable (k : Nat) (hk : 1000 < k) {m : Mem} {c : Nat} (hC : Cod m c)
include hk hC

theorem encode_ok {a : Option Addr} {cc : Nat} {w : Nat → GF} (hw : Src m a 58 w) :
    Ok (rs_Codec_Encode k (some ⟨c, 0, none⟩) a 58 cc m) fun r => ∃ d, r.1 = ⟨some ⟨d, 0, none⟩, 64, 64⟩ ∧ r.2.1 = .nilIface ∧ Gr m r.2.2 ∧ m.length ≤ d ∧ r.2.2[d]? = some (.live (bys 64 (GF.cw gC w))) := by
  obtain ⟨f, b, c1, c2, c3⟩ := hC
  unfold rs_Codec_Encode
  have h58 : (((58 : Nat) : Int) != 58) = false := rfl
  simp (disch := omega) only [Option.bind_some, Option.map_some, cond_true, cond_false, wrap_i64, tmod_pos, tdiv_pos, inRange_yes, inUpto_yes, isZero_no, decide_eq_true, decide_eq_false, Bool.not_true, Bool.not_false, Int.toNat_natCast, Nat.mul_one, beqI_yes, beqI_no, bneI_yes, bneI_no, isNil_nil, isNil_iface, wr_wr, Option.isNone_none, Option.isNone_some, plus, Nat.zero_add, Nat.add_zero, h58, bys_zero]
  refine rs_Codec_Encode_l0_rule k _ (fun r x0 x1a x1n x1c x6 x16a x16n x16c x17 x18 m' => (some ⟨c, 0, none⟩ : Option Addr) = x0 ∧ a = x1a ∧ 58 = x1n ∧ cc = x1c ∧ ⟨m.length, 0, none⟩ = x6 ∧ a = x16a ∧ 58 = x16n ∧ cc = x16c ∧ ((58 : Nat) : Int) = x17 ∧ ∃ i : Nat, x18 = i ∧ i + r = 58 ∧ m' = m ++ [.live (bys 6 (GF.rest gC w i))]) ?_ k 58 _ _ _ _ _ _ _ _ _ _ _ (by omega)
    ⟨rfl, rfl, rfl, rfl, rfl, rfl, rfl, rfl, rfl, 0, rfl, by omega, rfl⟩
  rintro r nx _ _ _ _ _ _ _ _ _ _ _ ⟨rfl, rfl, rfl, rfl, rfl, rfl, rfl, rfl, rfl, i, rfl, hr, rfl⟩ hnx
  unfold rs_Codec_Encode_l0_b
  by_cases hi : (i : Int) < ((58 : Nat) : Int)
  · generalize hR : GF.rest gC w i = R at *
    have hl := get_last (m := m) (o := .live (bys 6 R)) rfl
    obtain ⟨ad, rfl, e1⟩ := (hw.grow (Gr.app m [.live (bys 6 R)])).ld (i := i) (by omega)
    unfold plus at e1
    have e2 := bys_ld (sp := none) hl (i := 0) (by omega)
    have e3 := bys_rd (sp := none) hl (o := 1) (l := 5) (by omega)
    have e4 := bys_stc (sp := none) (u := fun i => R (1 + i)) hl (o := 0) (l := 5) (by omega)
    rw [wr_last rfl] at e4
    have hl2 := get_last (m := m) (o := .live (bys 6 fun i => if 0 ≤ i ∧ i < 0 + 5 then R (1 + (i - 0)) else R i)) rfl
    have e5 := bys_st (sp := none) hl2 (i := 5) (by omega) 0
    rw [wr_last rfl] at e5
    have hS : bys 6 (put (fun i => if 0 ≤ i ∧ i < 0 + 5 then R (1 + (i - 0)) else R i) 5 0) = bys 6 fun k => if k < 5 then R (k + 1) else 0 := bys_congr fun k hk => by
      unfold put
      by_cases h5 : k = 5
      · rw [if_pos h5, if_neg (by omega)]
      · rw [if_neg h5]; dsimp only; rw [if_pos (by omega), if_pos (by omega), show 1 + (k - 0) = k + 1 by omega]
    rw [hS] at e5
    have e6 : ldSl (m ++ [.live (bys 6 fun k => if k < 5 then R (k + 1) else 0)]) ⟨c, 1, none⟩ = some ⟨some ⟨b, 1, none⟩, 6, 6⟩ := ldSl_of (get_grow c1) rfl
    have t1 : Int.toNat 1 = 1 := rfl
    have t5 : Int.toNat 5 = 5 := rfl
    have t0 : Int.toNat 0 = 0 := rfl
    have ho : sliceK.okZ (some ⟨m.length, 0, none⟩) 1 true = true := rfl
    have hc : sliceK.clear (some ⟨m.length, 0, none⟩) true = some ⟨m.length, 0, none⟩ := rfl
    have hmin : min (6 - 1) 6 = 5 := rfl
    have hst : ∀ l, oper.stSl (m ++ [.live (bys 6 R)]) (some ⟨m.length, 0, none⟩) l = stCells (m ++ [.live (bys 6 R)]) ⟨m.length, 0, none⟩ l := fun _ => rfl
    have z0 : (Value.int .u8 0) = .int .u8 (((0 : GF).v : Nat) : Int) := rfl
    simp (disch := omega) only [Option.bind_some, Option.map_some, cond_true, cond_false, wrap_i64, tmod_pos, tdiv_pos, inRange_yes, inUpto_yes, isZero_no, decide_eq_true, decide_eq_false, Bool.not_true, Bool.not_false, Int.toNat_natCast, Nat.mul_one, beqI_yes, beqI_no, bneI_yes, bneI_no, isNil_nil, isNil_iface, wr_wr, Option.isNone_none, Option.isNone_some, plus, Nat.zero_add, Nat.add_zero, e1, t0, e2, ho, t1, Bool.and_self, hc, hmin, e3, hst, e4, t5, z0, e5, e6, xor_v]
    refine rs_Codec_Encode_l2_rule k _ (fun r x0 x1a x1n x1c x6 x9 x16a x16n x16c x17 x18 x33a x33n x33c x34 x35 m' => (some ⟨c, 0, none⟩ : Option Addr) = x0 ∧ some ad = x1a ∧ 58 = x1n ∧ cc = x1c ∧ ⟨m.length, 0, none⟩ = x6 ∧ ((R 0 + w i).v : Int) = x9 ∧ some ad = x16a ∧ 58 = x16n ∧ cc = x16c ∧ ((58 : Nat) : Int) = x17 ∧ (i : Int) = x18 ∧
      (some ⟨b, 1, none⟩ : Option Addr) = x33a ∧ 6 = x33n ∧ 6 = x33c ∧ ((6 : Nat) : Int) = x34 ∧ ∃ j : Nat, x35 = j ∧ j + r = 6 ∧ m' = m ++ [.live (bys 6 fun k => if k < j then GF.lstep gC R (w i) k else if k < 5 then R (k + 1) else 0)]) ?_ k 6 _ _ _ _ _ _ _ _ _ _ _ _ _ _ _ _ _ (by omega)
      ⟨rfl, rfl, rfl, rfl, rfl, rfl, rfl, rfl, rfl, rfl, rfl, rfl, rfl, rfl, rfl, 0, rfl, by omega, by
        rw [bys_congr (u := fun k => if k < 0 then GF.lstep gC R (w i) k else if k < 5 then R (k + 1) else 0) (w := fun k => if k < 5 then R (k + 1) else 0) fun k hk => if_neg (by omega)]⟩
    rintro r' nx' _ _ _ _ _ _ _ _ _ _ _ _ _ _ _ _ _ ⟨rfl, rfl, rfl, rfl, rfl, rfl, rfl, rfl, rfl, rfl, rfl, rfl, rfl, rfl, rfl, j, rfl, hr', rfl⟩ hnx'
    unfold rs_Codec_Encode_l2_b
    by_cases hj : (j : Int) < ((6 : Nat) : Int)
    · have hl3 := get_last (m := m) (o := .live (bys 6 fun k => if k < j then GF.lstep gC R (w i) k else if k < 5 then R (k + 1) else 0)) rfl
      have f1 := bys_ld (sp := none) hl3 (i := j) (by omega)
      simp only [if_neg (Nat.lt_irrefl j)] at f1
      have f2 := bys_ld (sp := none) (get_grow (g := [.live (bys 6 fun k => if k < j then GF.lstep gC R (w i) k else if k < 5 then R (k + 1) else 0)]) c3) (i := 1 + j) (by omega)
      have f3 := mul_is k (get_grow (g := [.live (bys 6 fun k => if k < j then GF.lstep gC R (w i) k else if k < 5 then R (k + 1) else 0)]) c2) (R 0 + w i) (gens 6 (1 + j))
      have f4 := bys_st (sp := none) hl3 (i := j) (by omega) (GF.lstep gC R (w i) j)
      rw [wr_last rfl] at f4
      have f5 : ldPtr (m ++ [.live (bys 6 fun k => if k < j then GF.lstep gC R (w i) k else if k < 5 then R (k + 1) else 0)]) ⟨c, 0, none⟩ = some (some ⟨f, 0, none⟩) := ldPtr_of (get_grow c1) rfl
      have f6 : ((if j < 5 then R (j + 1) else 0) + (R 0 + w i) * gens 6 (1 + j)) = GF.lstep gC R (w i) j := rfl
      simp (disch := omega) only [Option.bind_some, Option.map_some, cond_true, cond_false, wrap_i64, tmod_pos, tdiv_pos, inRange_yes, inUpto_yes, isZero_no, decide_eq_true, decide_eq_false, Bool.not_true, Bool.not_false, Int.toNat_natCast, Nat.mul_one, beqI_yes, beqI_no, bneI_yes, bneI_no, isNil_nil, isNil_iface, wr_wr, Option.isNone_none, Option.isNone_some, plus, Nat.zero_add, Nat.add_zero, f1, f2, f5, f3, xor_v, f6, f4, beq_self_eq_true]
      refine hnx' (r' - 1) _ _ _ _ _ _ _ _ _ _ _ _ _ _ _ _ _ (by omega) ⟨rfl, rfl, rfl, rfl, rfl, rfl, rfl, rfl, rfl, rfl, rfl, rfl, rfl, rfl, rfl, j + 1, by omega, by omega, ?_⟩
      congr 3
      exact bys_congr fun k hk => by
        unfold put
        by_cases h6 : k = j
        · rw [if_pos h6, if_pos (by omega), h6]
        · rw [if_neg h6]; dsimp only
          by_cases h7 : k < j
          · rw [if_pos h7, if_pos (show k < j + 1 by omega)]
          · rw [if_neg h7, if_neg (show ¬ k < j + 1 by omega)]
    · obtain rfl : j = 6 := by omega
      simp (disch := omega) only [Option.bind_some, Option.map_some, cond_true, cond_false, wrap_i64, tmod_pos, tdiv_pos, inRange_yes, inUpto_yes, isZero_no, decide_eq_true, decide_eq_false, Bool.not_true, Bool.not_false, Int.toNat_natCast, Nat.mul_one, beqI_yes, beqI_no, bneI_yes, bneI_no, isNil_nil, isNil_iface, wr_wr, Option.isNone_none, Option.isNone_some, plus, Nat.zero_add, Nat.add_zero]
      refine hnx (r - 1) _ _ _ _ _ _ _ _ _ _ _ (by omega) ⟨rfl, rfl, rfl, rfl, rfl, rfl, rfl, rfl, rfl, i + 1, by omega, by omega, ?_⟩
      congr 3
      rw [GF.rest, hR]
      exact bys_congr fun k hk => if_pos hk
  · obtain rfl : i = 58 := by omega
    generalize hR : GF.rest gC w 58 = R at *
    have hl := get_last (m := m) (o := .live (bys 6 R)) rfl
    have t64 : Int.toNat 64 = 64 := rfl
    have t0 : Int.toNat 0 = 0 := rfl
    have hlen : (m ++ [MObj.live (bys 6 R)]).length = m.length + 1 := by simp
    have e1 := (hw.grow ((Gr.app m [.live (bys 6 R)]).trans (Gr.app _ [.live (bys 64 fun _ => 0)])))
    unfold Src at e1
    have hl2 := get_last (m := m ++ [.live (bys 6 R)]) (o := .live (bys 64 fun _ => 0)) rfl
    have e2 := bys_stc (sp := none) (u := w) hl2 (o := 0) (l := 58) (by omega)
    rw [wr_last rfl] at e2
    have hl3 := get_last (m := m ++ [.live (bys 6 R)]) (o := .live (bys 64 fun i => if 0 ≤ i ∧ i < 0 + 58 then w (i - 0) else 0)) rfl
    have e3 := bys_rd0 (sp := none) (get_grow (g := [.live (bys 64 fun i => if 0 ≤ i ∧ i < 0 + 58 then w (i - 0) else 0)]) hl)
    have e4 := bys_stc (sp := none) (u := R) hl3 (o := 58) (l := 6) (by omega)
    rw [wr_last rfl] at e4
    have hc : sliceK.clear (some ⟨m.length, 0, none⟩) true = some ⟨m.length, 0, none⟩ := rfl
    rw [hlen] at e2 e4
    have hE : (bys 64 fun i => if 58 ≤ i ∧ i < 58 + 6 then R (i - 58) else if 0 ≤ i ∧ i < 0 + 58 then w (i - 0) else 0) = bys 64 (GF.cw gC w) := bys_congr fun k hk => by
      unfold GF.cw
      rw [hR]
      by_cases h6 : k < 58
      · rw [if_neg (by omega), if_pos (by omega), if_pos h6]; rfl
      · rw [if_pos (by omega), if_neg h6]
    rw [hE] at e4
    simp (disch := omega) only [Option.bind_some, Option.map_some, cond_true, cond_false, wrap_i64, tmod_pos, tdiv_pos, inRange_yes, inUpto_yes, isZero_no, decide_eq_true, decide_eq_false, Bool.not_true, Bool.not_false, Int.toNat_natCast, Nat.mul_one, beqI_yes, beqI_no, bneI_yes, bneI_no, isNil_nil, isNil_iface, wr_wr, Option.isNone_none, Option.isNone_some, plus, Nat.zero_add, Nat.add_zero, t64, bys_zero, e1, t0, hlen, appM_room, e2, hc, e3, e4]
    exact .some ⟨m.length + 1, rfl, rfl, (Gr.app m _).trans (Gr.app _ _), by omega, get_last hlen⟩

theorem encode_no {a : Option Addr} {n cc : Nat} (hn : n ≠ 58) : rs_Codec_Encode k (some ⟨c, 0, none⟩) a n cc m = some (⟨none, 0, 0⟩, errC 1, m) := by
  unfold rs_Codec_Encode
  have h58 : (((n : Nat) : Int) != 58) = true := bneI_yes (by omega)
  simp (disch := omega) only [Option.bind_some, Option.map_some, cond_true, cond_false, wrap_i64, tmod_pos, tdiv_pos, inRange_yes, inUpto_yes, isZero_no, decide_eq_true, decide_eq_false, Bool.not_true, Bool.not_false, Int.toNat_natCast, Nat.mul_one, beqI_yes, beqI_no, bneI_yes, bneI_no, isNil_nil, isNil_iface, wr_wr, Option.isNone_none, Option.isNone_some, plus, Nat.zero_add, Nat.add_zero, h58]
  rfl

theorem syn_ok {a : Option Addr} {cc : Nat} {w : Nat → GF} (hw : Src m a 64 w) :
    Ok (rs_Codec_syndromes k (some ⟨c, 0, none⟩) a 64 cc m) fun r => r.1 = bys 6 (GF.syn w) ∧ Gr m r.2 := by
  obtain ⟨f, b, c1, c2, c3⟩ := hC
  unfold rs_Codec_syndromes
  have hlen : (m ++ [MObj.live (bys 6 fun _ => 0)]).length = m.length + 1 := by simp
  simp (disch := omega) only [Option.bind_some, Option.map_some, cond_true, cond_false, wrap_i64, tmod_pos, tdiv_pos, inRange_yes, inUpto_yes, isZero_no, decide_eq_true, decide_eq_false, Bool.not_true, Bool.not_false, Int.toNat_natCast, Nat.mul_one, beqI_yes, beqI_no, bneI_yes, bneI_no, isNil_nil, isNil_iface, wr_wr, Option.isNone_none, Option.isNone_some, plus, Nat.zero_add, Nat.add_zero, bys_zero, hlen]
  refine rs_Codec_syndromes_l0_rule k _ (fun r x0 x1a x1n x1c x4 x5 x7 m' => (some ⟨c, 0, none⟩ : Option Addr) = x0 ∧ a = x1a ∧ 64 = x1n ∧ cc = x1c ∧ ⟨m.length, 0, none⟩ = x4 ∧ ⟨m.length + 1, 0, none⟩ = x5 ∧ ∃ i : Nat, x7 = i ∧ i + r = 6 ∧ m' = m ++ [.live (bys 6 fun _ => 0)] ++ [.live (bys 6 fun j => if j < i then GF.syn w j else 0)]) ?_ k 6 _ _ _ _ _ _ _ _ (by omega)
    ⟨rfl, rfl, rfl, rfl, rfl, rfl, 0, rfl, by omega, by rw [bys_congr (u := fun j => if j < 0 then GF.syn w j else 0) (w := fun _ => 0) fun k hk => if_neg (by omega)]⟩
  rintro r nx _ _ _ _ _ _ _ _ ⟨rfl, rfl, rfl, rfl, rfl, rfl, i, rfl, hr, rfl⟩ hnx
  unfold rs_Codec_syndromes_l0_b
  generalize hm1 : m ++ [MObj.live (bys 6 fun _ => 0)] = m1 at *
  have hg : Gr m (m1 ++ [.live (bys 6 fun j => if j < i then GF.syn w j else 0)]) := by rw [← hm1]; exact (Gr.app m _).trans (Gr.app _ _)
  have hl := get_last (o := .live (bys 6 fun j => if j < i then GF.syn w j else 0)) hlen
  by_cases hi : (i : Int) < 6
  · have e1 : ldPtr (m1 ++ [.live (bys 6 fun j => if j < i then GF.syn w j else 0)]) ⟨c, 0, none⟩ = some (some ⟨f, 0, none⟩) := ldPtr_of (hg.get c1) rfl
    have e2 := exp_is k (hg.get c2) i (by omega)
    have e3 := eval_is k (hg.get c2) (c := cc) (hw.grow hg) (by omega) (by omega) (GF.pw i)
    rw [GF.syn_hor] at e3
    have e4 := bys_st (sp := none) hl (i := i) (by omega) (GF.syn w i)
    rw [wr_last hlen] at e4
    have hd : decide ((some ⟨f, 0, none⟩ : Option Addr) = some ⟨f, 0, none⟩) = true := decide_eq_true rfl
    simp (disch := omega) only [Option.bind_some, Option.map_some, cond_true, cond_false, wrap_i64, tmod_pos, tdiv_pos, inRange_yes, inUpto_yes, isZero_no, decide_eq_true, decide_eq_false, Bool.not_true, Bool.not_false, Int.toNat_natCast, Nat.mul_one, beqI_yes, beqI_no, bneI_yes, bneI_no, isNil_nil, isNil_iface, wr_wr, Option.isNone_none, Option.isNone_some, plus, Nat.zero_add, Nat.add_zero, e1, e2, e3, e4, hd]
    refine hnx (r - 1) _ _ _ _ _ _ _ _ (by omega) ⟨rfl, rfl, rfl, rfl, rfl, rfl, i + 1, by omega, by omega, ?_⟩
    congr 3
    exact bys_congr fun k hk => by
      unfold put
      by_cases h6 : k = i
      · rw [if_pos h6, if_pos (by omega), h6]
      · rw [if_neg h6]; dsimp only
        by_cases h7 : k < i
        · rw [if_pos h7, if_pos (by omega)]
        · rw [if_neg h7, if_neg (by omega)]
  · obtain rfl : i = 6 := by omega
    have e1 := bys_ldc (sp := none) hl
    have hl0 : (m1 ++ [MObj.live (bys 6 fun j => if j < 6 then GF.syn w j else 0)])[m.length]? = some (.live (bys 6 fun _ => 0)) := get_grow (by rw [← hm1]; exact get_last rfl)
    have e2 := bys_stc (sp := none) (u := fun j => if j < 6 then GF.syn w j else 0) hl0 (o := 0) (l := 6) (by omega)
    have e3 := bys_ldc (sp := none) (wr_get (cs := bys 6 fun i => if 0 ≤ i ∧ i < 0 + 6 then (fun j => if j < 6 then GF.syn w j else 0) (i - 0) else 0) hl0)
    have hb : Nat.beq (bys 6 fun j => if j < 6 then GF.syn w j else 0).length 6 = true := by rw [bys_len]; rfl
    simp (disch := omega) only [Option.bind_some, Option.map_some, cond_true, cond_false, wrap_i64, tmod_pos, tdiv_pos, inRange_yes, inUpto_yes, isZero_no, decide_eq_true, decide_eq_false, Bool.not_true, Bool.not_false, Int.toNat_natCast, Nat.mul_one, beqI_yes, beqI_no, bneI_yes, bneI_no, isNil_nil, isNil_iface, wr_wr, Option.isNone_none, Option.isNone_some, plus, Nat.zero_add, Nat.add_zero, e1, hb, e2, e3]
    exact .some ⟨bys_congr fun k hk => by simp only [if_pos (show 0 ≤ k ∧ k < 0 + 6 by omega), Nat.sub_zero, if_pos hk], hg.wr (Nat.le_refl _) _⟩

end
end Go.Proofs.Ytmfmoanjecjeeaa
