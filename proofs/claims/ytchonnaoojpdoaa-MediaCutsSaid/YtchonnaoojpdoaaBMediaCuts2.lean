/- Texts of this proof, one behind the other: Fr3, Fr7, Fr8, Err, Nand, NandF, NandG, NandH, NandI, NandJ, Nref, NrefA, NrefB, NrefC, MTag, MTag2, NrefD, NWf, NAll, Med. -/
import Derived.Test.YtchonnaoojpdoaaBMediaCuts1
import Derived.Test.YtchonnaoojpdoaaFnand
import Derived.Test.YtchonnaoojpdoaaMxFlat
import Derived.Test.YtchonnaoojpdoaaFpatinaref05
import Derived.Test.YtchonnaoojpdoaaFtag
import Derived.Test.YtchonnaoojpdoaaFmedia
/- The frame: a page is read. -/
set_option linter.unusedVariables false
set_option linter.unusedSectionVars false
set_option linter.unusedSimpArgs false
namespace Go.Proofs.Ytchonnaoojpdoaa
open Go.Mx

/-- a word of a page -/
def wd (w : Nat → GF) (i : Nat) : Nat → GF := fun j => w (i * 64 + j)

theorem message_no (k : Nat) {m : Mem} {c : Option Addr} {a : Option Addr} {n ca : Nat} {p : Int} (h : ¬ (n = 256 ∧ 0 ≤ p ∧ p ≤ 3)) : frame_Frame_Message k c a n ca p m = some (⟨none, 0, 0⟩, 0, errC 1, m) := by
  unfold frame_Frame_Message
  rw [errC_pos (by omega)]
  by_cases h1 : n = 256
  · subst h1
    have e1 : (((256 : Nat) : Int) != 256) = false := rfl
    rw [e1, cond_false]
    by_cases h2 : p < 0
    · rw [decide_eq_true h2, cond_true]
    · rw [decide_eq_false h2, cond_false, decide_eq_true (show p > 3 by omega), cond_true]
  · have e1 : (((n : Nat) : Int) != 256) = true := bneI_yes (by omega)
    rw [e1, cond_true]

section
variable (k : Nat) (hk : 1000 < k) {m : Mem} {c : Nat} (hC : Frm m c)
include hk hC

theorem message_ok' {ad : Addr} {ca i : Nat} {w : Nat → GF} (hw : Src m (some ad) 256 w) (hs : okS ad) (hca : 256 ≤ ca) (hi : i < 4) :
    Ok (frame_Frame_Message k (some ⟨c, 0, none⟩) (some ad) 256 ca i m) fun r => Gr m r.2.2.2 ∧ ((∃ u n d, GF.dec (wd w i) = some (u, n) ∧ r.1 = ⟨some ⟨d, 0, none⟩, 58, 58⟩ ∧ r.2.1 = (n : Nat) ∧ r.2.2.1 = .nilIface ∧ m.length ≤ d ∧ r.2.2.2[d]? = some (.live (bys 64 u))) ∨
      (GF.dec (wd w i) = none ∧ r.1 = ⟨none, 0, 0⟩ ∧ r.2.1 = 0 ∧ r.2.2.1 = errC 5)) := by
  unfold frame_Frame_Message
  obtain ⟨cd, c1, c2⟩ := hC
  have e1 : (((256 : Nat) : Int) != 256) = false := rfl
  have f2 : ldPtr m ⟨c, 0, none⟩ = some (some ⟨cd, 0, none⟩) := ldPtr_of c1 rfl
  have w2 : IntKind.wrap .i64 ((i : Int) + 1) = ((i + 1 : Nat) : Int) := by rw [wrap_i64 (by omega) (by omega)]; simp
  have w1 : IntKind.wrap .i64 ((i : Int) * 64) = ((i * 64 : Nat) : Int) := by rw [wrap_i64 (by omega) (by omega)]; simp
  have w3 : IntKind.wrap .i64 (((i + 1 : Nat) : Int) * 64) = ((i * 64 + 64 : Nat) : Int) := by
    rw [wrap_i64 (by omega) (by omega)]; omega
  have u1 : inUpto ((i * 64 + 64 : Nat) : Int) ca = true := inUpto_yes (by omega) (by omega)
  have u2 : inUpto ((i * 64 : Nat) : Int) (i * 64 + 64) = true := inUpto_yes (by omega) (by omega)
  simp only [e1, cond_false, decide_eq_false (show ¬ (i : Int) < 0 by omega), decide_eq_false (show ¬ (i : Int) > 3 by omega), Option.bind_some, plus, Nat.add_zero, f2, w2, w1, w3, hs.z, u1, u2, Bool.and_self, cond_true, Int.toNat_natCast, Nat.mul_one, clear_f, Option.map_some]
  rw [show i * 64 + 64 - i * 64 = 64 by omega]
  refine .bind (decode_ok k hk c2 (cc := ca - i * 64) (hw.part (o := i * 64) (l := 64) (by omega))) ?_
  rintro r ⟨h1, h2⟩
  exact .some ⟨h1, h2⟩

def mxN (N : Nat → Nat) : Nat → Nat
  | 0 => 0
  | i + 1 => max (mxN N i) (N i)
omit hk hC in
theorem maxI_nat (a b : Nat) : maxI (a : Int) (b : Int) = ((max a b : Nat) : Int) := by
  unfold maxI; split <;> omega

theorem body_ok {ad : Addr} {ca : Nat} {w : Nat → GF} (hw : Src m (some ad) 256 w) (hs : okS ad) (hca : 256 ≤ ca) :
    Ok (frame_Frame_Body k (some ⟨c, 0, none⟩) (some ad) 256 ca m) fun r => Gr m r.2.2.2 ∧ ((∃ u n d, GF.dec (wd w 3) = some (u, n) ∧ marked u ∧ r.1 = ⟨some ⟨d, 0, none⟩, 50, 50⟩ ∧ r.2.1 = (n : Nat) ∧ r.2.2.1 = .nilIface ∧ m.length ≤ d ∧ r.2.2.2[d]? = some (.live (bys 58 u))) ∨
      (∃ u n, GF.dec (wd w 3) = some (u, n) ∧ ¬ marked u ∧ r.1 = ⟨none, 0, 0⟩ ∧ r.2.1 = 0 ∧ r.2.2.1 = errC 6) ∨ (GF.dec (wd w 3) = none ∧ r.1 = ⟨none, 0, 0⟩ ∧ r.2.1 = 0 ∧ r.2.2.1 = errC 5)) := by
  unfold frame_Frame_Body
  refine .bind (message_ok' k hk hC hw hs hca (i := 3) (by omega)) ?_
  rintro ⟨_, _, _, m1⟩ ⟨hg1, ⟨u, n, d, hd, rfl, rfl, rfl, h1, h2⟩ | ⟨hd, rfl, rfl, rfl⟩⟩
  · simp only at hg1 h2 ⊢
    simp (disch := omega) only [Option.bind_some, Option.map_some, cond_true, cond_false, wrap_i64, tmod_pos, tdiv_pos, inRange_yes, inUpto_yes, isZero_no, decide_eq_true, decide_eq_false, Bool.not_true, Bool.not_false, Int.toNat_natCast, Nat.mul_one, beqI_yes, beqI_no, bneI_yes, bneI_no, isNil_nil, isNil_iface, wr_wr, Option.isNone_none, Option.isNone_some, plus, Nat.zero_add, Nat.add_zero, isNil_nil]
    refine .bind (open_ok k (c := 58) (Src.take (sp := none) h2 (l := 58) (by omega))) ?_
    rintro ⟨_, _, m2⟩ ⟨hg2, ⟨hm, d2, rfl, rfl, h3, h4⟩ | ⟨hm, rfl, rfl⟩⟩
    · simp only at hg2 h4 ⊢
      simp (disch := omega) only [Option.bind_some, Option.map_some, cond_true, cond_false, wrap_i64, tmod_pos, tdiv_pos, inRange_yes, inUpto_yes, isZero_no, decide_eq_true, decide_eq_false, Bool.not_true, Bool.not_false, Int.toNat_natCast, Nat.mul_one, beqI_yes, beqI_no, bneI_yes, bneI_no, isNil_nil, isNil_iface, wr_wr, Option.isNone_none, Option.isNone_some, plus, Nat.zero_add, Nat.add_zero, isNil_nil]
      exact .some ⟨hg1.trans hg2, .inl ⟨u, n, d2, hd, hm, rfl, rfl, rfl, by have := hg1.len; omega, h4⟩⟩
    · simp only at hg2 ⊢
      have e3 : isNil (errC 6) = some false := rfl
      simp (disch := omega) only [Option.bind_some, Option.map_some, cond_true, cond_false, wrap_i64, tmod_pos, tdiv_pos, inRange_yes, inUpto_yes, isZero_no, decide_eq_true, decide_eq_false, Bool.not_true, Bool.not_false, Int.toNat_natCast, Nat.mul_one, beqI_yes, beqI_no, bneI_yes, bneI_no, isNil_nil, isNil_iface, wr_wr, Option.isNone_none, Option.isNone_some, plus, Nat.zero_add, Nat.add_zero, e3]
      exact .some ⟨hg1.trans hg2, .inr (.inl ⟨u, n, hd, hm, rfl, rfl, rfl⟩)⟩
  · simp only at hg1 ⊢
    have e3 : isNil (errC 5) = some false := rfl
    simp (disch := omega) only [Option.bind_some, Option.map_some, cond_true, cond_false, wrap_i64, tmod_pos, tdiv_pos, inRange_yes, inUpto_yes, isZero_no, decide_eq_true, decide_eq_false, Bool.not_true, Bool.not_false, Int.toNat_natCast, Nat.mul_one, beqI_yes, beqI_no, bneI_yes, bneI_no, isNil_nil, isNil_iface, wr_wr, Option.isNone_none, Option.isNone_some, plus, Nat.zero_add, Nat.add_zero, e3]
    exact .some ⟨hg1, .inr (.inr ⟨hd, rfl, rfl, rfl⟩)⟩

/-- where the loop over the words stands -/
structure DaI (m ML : Mem) (x7 x8 : Nat) (w : Nat → GF) (i : Nat) (M : Mem) (out : Option Addr) (U : Nat → Nat → GF) (N : Nat → Nat) : Prop where
  len : ML.length ≤ M.length
  gr : Gr m M
  old : ∀ p, p < ML.length → p ≠ x7 → p ≠ x8 → M[p]? = ML[p]?
  b7 : M[x7]? = some (.live [.slice out (i * 58) (i * 58)])
  b8 : M[x8]? = some (.live [.int .i64 (mxN N i : Nat)])
  out_ : Ac ML.length M out (i * 58) fun j => U (j / 58) (j % 58)
  dec_ : ∀ j, j < i → GF.dec (wd w j) = some (U j, N j)

theorem data_ok {ad : Addr} {ca : Nat} {w : Nat → GF} (hw : Src m (some ad) 256 w) (hs : okS ad) (hca : 256 ≤ ca) :
    Ok (frame_Frame_Data k (some ⟨c, 0, none⟩) (some ad) 256 ca m) fun r => Gr m r.2.2.2 ∧ ((∃ (U : Nat → Nat → GF) (N : Nat → Nat) (q : Nat), (∀ j, j < 3 → GF.dec (wd w j) = some (U j, N j)) ∧ r.1 = ⟨some ⟨q, 0, some 1⟩, 174, 174⟩ ∧ r.2.1 = (mxN N 3 : Nat) ∧ r.2.2.1 = .nilIface ∧ m.length ≤ q ∧ r.2.2.2[q]? = some (.live (bys 174 fun j => U (j / 58) (j % 58)))) ∨
      (∃ j, j < 3 ∧ GF.dec (wd w j) = none ∧ r.1 = ⟨none, 0, 0⟩ ∧ r.2.1 = 0 ∧ r.2.2.1 = errC 5)) := by
  unfold frame_Frame_Data
  have l1 : (m ++ [MObj.live [Value.pointer (some ⟨c, 0, none⟩)]]).length = m.length + 1 := by simp
  have l2 : ((m ++ [MObj.live [Value.pointer (some ⟨c, 0, none⟩)]]) ++ [MObj.live [.slice none 0 0]]).length = m.length + 2 := by simp
  have l3 : (((m ++ [MObj.live [Value.pointer (some ⟨c, 0, none⟩)]]) ++ [MObj.live [.slice none 0 0]]) ++ [MObj.live [.int .i64 0]]).length = m.length + 3 := by simp
  have l4 : ((((m ++ [MObj.live [Value.pointer (some ⟨c, 0, none⟩)]]) ++ [MObj.live [.slice none 0 0]]) ++ [MObj.live [.int .i64 0]]) ++ [MObj.live [.nilIface]]).length = m.length + 4 := by simp
  have l5 : (((((m ++ [MObj.live [Value.pointer (some ⟨c, 0, none⟩)]]) ++ [MObj.live [.slice none 0 0]]) ++ [MObj.live [.int .i64 0]]) ++ [MObj.live [.nilIface]]) ++ [MObj.live [.slice none 0 0]]).length = m.length + 5 := by simp
  have g6 := (((((Gr.app m [.live [Value.pointer (some ⟨c, 0, none⟩)]]).trans (Gr.app _ [.live [.slice none 0 0]])).trans (Gr.app _ [.live [.int .i64 0]])).trans (Gr.app _ [.live [.nilIface]])).trans (Gr.app _ [.live [.slice none 0 0]])).trans (Gr.app _ [.live [.int .i64 0]])
  have x2 : ((((((m ++ [MObj.live [Value.pointer (some ⟨c, 0, none⟩)]]) ++ [MObj.live [.slice none 0 0]]) ++ [MObj.live [.int .i64 0]]) ++ [MObj.live [.nilIface]]) ++ [MObj.live [.slice none 0 0]]) ++ [MObj.live [.int .i64 0]])[m.length]? = some (.live [Value.pointer (some ⟨c, 0, none⟩)]) := get_grow (get_grow (get_grow (get_grow (get_grow (get_last rfl)))))
  have x4 : ((((((m ++ [MObj.live [Value.pointer (some ⟨c, 0, none⟩)]]) ++ [MObj.live [.slice none 0 0]]) ++ [MObj.live [.int .i64 0]]) ++ [MObj.live [.nilIface]]) ++ [MObj.live [.slice none 0 0]]) ++ [MObj.live [.int .i64 0]])[m.length + 1]? = some (.live [.slice none 0 0]) := get_grow (get_grow (get_grow (get_grow (get_last (by simp)))))
  have x5 : ((((((m ++ [MObj.live [Value.pointer (some ⟨c, 0, none⟩)]]) ++ [MObj.live [.slice none 0 0]]) ++ [MObj.live [.int .i64 0]]) ++ [MObj.live [.nilIface]]) ++ [MObj.live [.slice none 0 0]]) ++ [MObj.live [.int .i64 0]])[m.length + 2]? = some (.live [.int .i64 0]) := get_grow (get_grow (get_grow (get_last (by simp))))
  have x6 : ((((((m ++ [MObj.live [Value.pointer (some ⟨c, 0, none⟩)]]) ++ [MObj.live [.slice none 0 0]]) ++ [MObj.live [.int .i64 0]]) ++ [MObj.live [.nilIface]]) ++ [MObj.live [.slice none 0 0]]) ++ [MObj.live [.int .i64 0]])[m.length + 3]? = some (.live [.nilIface]) := get_grow (get_grow (get_last (by simp)))
  have x7 : ((((((m ++ [MObj.live [Value.pointer (some ⟨c, 0, none⟩)]]) ++ [MObj.live [.slice none 0 0]]) ++ [MObj.live [.int .i64 0]]) ++ [MObj.live [.nilIface]]) ++ [MObj.live [.slice none 0 0]]) ++ [MObj.live [.int .i64 0]])[m.length + 4]? = some (.live [.slice none 0 0]) := get_grow (get_last (by simp))
  have x8 : ((((((m ++ [MObj.live [Value.pointer (some ⟨c, 0, none⟩)]]) ++ [MObj.live [.slice none 0 0]]) ++ [MObj.live [.int .i64 0]]) ++ [MObj.live [.nilIface]]) ++ [MObj.live [.slice none 0 0]]) ++ [MObj.live [.int .i64 0]])[m.length + 5]? = some (.live [.int .i64 0]) := get_last (by simp)
  have l6 : ((((((m ++ [MObj.live [Value.pointer (some ⟨c, 0, none⟩)]]) ++ [MObj.live [.slice none 0 0]]) ++ [MObj.live [.int .i64 0]]) ++ [MObj.live [.nilIface]]) ++ [MObj.live [.slice none 0 0]]) ++ [MObj.live [.int .i64 0]]).length = m.length + 6 := by simp
  have e0 : (((256 : Nat) : Int) != 256) = false := rfl
  have u0 : inUpto 192 ca = true := inUpto_yes (by omega) (by omega)
  have t0 : Int.toNat 192 = 192 := rfl
  simp (disch := omega) only [Option.bind_some, Option.map_some, cond_true, cond_false, wrap_i64, tmod_pos, tdiv_pos, inRange_yes, inUpto_yes, isZero_no, decide_eq_true, decide_eq_false, Bool.not_true, Bool.not_false, Int.toNat_natCast, Nat.mul_one, beqI_yes, beqI_no, bneI_yes, bneI_no, isNil_nil, isNil_iface, wr_wr, Option.isNone_none, Option.isNone_some, plus, Nat.zero_add, Nat.add_zero, l1, l2, l3, l4, l5, e0, u0, t0, clear_f]
  generalize (((((m ++ [MObj.live [Value.pointer (some ⟨c, 0, none⟩)]]) ++ [MObj.live [.slice none 0 0]]) ++ [MObj.live [.int .i64 0]]) ++ [MObj.live [.nilIface]]) ++ [MObj.live [.slice none 0 0]]) ++ [MObj.live [.int .i64 0]] = M6 at *
  have f0 := st_wr (sp := none) (off := 0) (v := .int .i64 0) x8 (by simp)
  have hs0 : ([.int .i64 0] : List Value).set 0 (.int .i64 0) = [.int .i64 0] := rfl
  rw [hs0, wr_same x8] at f0
  have e5 := pieces_is k M6 (some ad) 192 ca 64
  rw [l6] at e5
  have gb : (M6 ++ [MObj.live [.slice (some ad) 192 ca], .live [.int .i64 64]])[m.length + 6]? = some (.live [.slice (some ad) 192 ca]) := by rw [List.getElem?_append_right (by omega), l6]; simp
  have gz : (M6 ++ [MObj.live [.slice (some ad) 192 ca], .live [.int .i64 64]])[m.length + 6 + 1]? = some (.live [.int .i64 64]) := by rw [List.getElem?_append_right (by omega), l6]; simp
  have hgL : Gr M6 (M6 ++ [MObj.live [.slice (some ad) 192 ca], .live [.int .i64 64]]) := Gr.app _ _
  have hlL : (M6 ++ [MObj.live [.slice (some ad) 192 ca], .live [.int .i64 64]]).length = m.length + 8 := by simp [l6]
  simp (disch := omega) only [Option.bind_some, Option.map_some, cond_true, cond_false, wrap_i64, tmod_pos, tdiv_pos, inRange_yes, inUpto_yes, isZero_no, decide_eq_true, decide_eq_false, Bool.not_true, Bool.not_false, Int.toNat_natCast, Nat.mul_one, beqI_yes, beqI_no, bneI_yes, bneI_no, isNil_nil, isNil_iface, wr_wr, Option.isNone_none, Option.isNone_some, plus, Nat.zero_add, Nat.add_zero, f0, e5]
  generalize M6 ++ [MObj.live [.slice (some ad) 192 ca], .live [.int .i64 64]] = ML at *
  have gL := g6.trans hgL
  have hwL := hw.grow gL
  refine frame_Frame_Data_r0_rule k _ _ _ _ _ _ _ _ _ (fun r si M => ∃ (i : Nat) (out : Option Addr) (U : Nat → Nat → GF) (N : Nat → Nat), si = i ∧ i + r = 3 ∧ DaI m ML (m.length + 4) (m.length + 5) w i M out U N) ?_ k 3 _ _ (by omega)
    ⟨0, none, fun _ _ => 0, fun _ => 0, rfl, rfl, ⟨Nat.le_refl _, gL, fun _ _ _ _ => rfl, hgL.get x7, hgL.get x8, .inl ⟨rfl, rfl⟩, fun j hj => by omega⟩⟩
  rintro r nx _ M ⟨i, out, U, N, rfl, hr, hI⟩ hnx
  unfold frame_Frame_Data_r0_b
  have b1 : M[m.length + 6]? = _ := (hI.old _ (by omega) (by omega) (by omega)).trans gb
  have b2 : M[m.length + 6 + 1]? = _ := (hI.old _ (by omega) (by omega) (by omega)).trans gz
  have b_2 : M[m.length]? = _ := (hI.old _ (by omega) (by omega) (by omega)).trans (hgL.get x2)
  have b_4 : M[m.length + 1]? = _ := (hI.old _ (by omega) (by omega) (by omega)).trans (hgL.get x4)
  have b_5 : M[m.length + 2]? = _ := (hI.old _ (by omega) (by omega) (by omega)).trans (hgL.get x5)
  have b_6 : M[m.length + 3]? = _ := (hI.old _ (by omega) (by omega) (by omega)).trans (hgL.get x6)
  have hml := hI.len
  -- the results, written and read
  have fin : ∀ (M : Mem) (s : Sl) (n : Int) (e : Value) (cs4 cs5 cs6 : MObj), M[m.length + 1]? = some (.live [.slice none 0 0]) → M[m.length + 2]? = some (.live [.int .i64 0]) → M[m.length + 3]? = some (.live [.nilIface]) →
      ∃ M4 M5 M6, st M ⟨m.length + 1, 0, none⟩ (.slice s.a s.len s.cap) = some M4 ∧ st M4 ⟨m.length + 2, 0, none⟩ (.int .i64 n) = some M5 ∧ st M5 ⟨m.length + 3, 0, none⟩ e = some M6 ∧
        ldSl M6 ⟨m.length + 1, 0, none⟩ = some s ∧ ldInt .i64 M6 ⟨m.length + 2, 0, none⟩ = some n ∧ ldVal M6 ⟨m.length + 3, 0, none⟩ = some e ∧ (∀ p, p ≠ m.length + 1 → p ≠ m.length + 2 → p ≠ m.length + 3 → M6[p]? = M[p]?) ∧ (∀ p, p ≠ m.length + 1 → M4[p]? = M[p]?) ∧ (∀ m0, Gr m0 M → m0.length ≤ m.length → Gr m0 M6) := by
    intro M s n e _ _ _ y4 y5 y6
    have q4 := st_wr (sp := none) (off := 0) (v := .slice s.a s.len s.cap) y4 (by simp)
    have y5' : (wr M (m.length + 1) (([.slice none 0 0] : List Value).set 0 (.slice s.a s.len s.cap)))[m.length + 2]? = some (.live [.int .i64 0]) := by rw [wr_ne (by omega)]; exact y5
    have q5 := st_wr (sp := none) (off := 0) (v := .int .i64 n) y5' (by simp)
    have y6' : (wr (wr M (m.length + 1) (([.slice none 0 0] : List Value).set 0 (.slice s.a s.len s.cap))) (m.length + 2) (([.int .i64 0] : List Value).set 0 (.int .i64 n)))[m.length + 3]? = some (.live [.nilIface]) := by rw [wr_ne (by omega), wr_ne (by omega)]; exact y6
    have q6 := st_wr (sp := none) (off := 0) (v := e) y6' (by simp)
    refine ⟨_, _, _, q4, q5, q6, ldSl_of (cs := [.slice s.a s.len s.cap]) (by rw [wr_ne (by omega), wr_ne (by omega)]; exact wr_get y4) rfl, ldInt_of (cs := [.int .i64 n]) (by rw [wr_ne (by omega)]; exact wr_get y5') rfl, ldVal_of (cs := [e]) (wr_get y6') rfl,
      fun p h1 h2 h3 => by rw [wr_ne (Ne.symm h3), wr_ne (Ne.symm h2), wr_ne (Ne.symm h1)], fun p h1 => by rw [wr_ne (Ne.symm h1)], fun m0 h0 h1 => ((h0.wr (by omega) _).wr (by omega) _).wr (by omega) _⟩
  by_cases hi : i < 3
  · rw [pcs_next (s := 64) b1 b2 hs (by omega) (by omega) (by omega) (by omega) (by omega)]
    obtain ⟨cd, c1, c2⟩ := hC.grow hI.gr
    have f1 : ldPtr M ⟨m.length, 0, none⟩ = some (some ⟨c, 0, none⟩) := ldPtr_of b_2 rfl
    have f2 : ldPtr M ⟨c, 0, none⟩ = some (some ⟨cd, 0, none⟩) := ldPtr_of c1 rfl
    simp (disch := omega) only [Option.bind_some, Option.map_some, cond_true, cond_false, wrap_i64, tmod_pos, tdiv_pos, inRange_yes, inUpto_yes, isZero_no, decide_eq_true, decide_eq_false, Bool.not_true, Bool.not_false, Int.toNat_natCast, Nat.mul_one, beqI_yes, beqI_no, bneI_yes, bneI_no, isNil_nil, isNil_iface, wr_wr, Option.isNone_none, Option.isNone_some, plus, Nat.zero_add, Nat.add_zero, f1, f2]
    have hsrc : Src M (some (plus ad (i * 64))) 64 (wd w i) := (hw.grow hI.gr).part (by omega)
    refine .bind (decode_ok k hk c2 (cc := ca - i * 64) hsrc) ?_
    rintro ⟨_, _, _, M2⟩ ⟨hg2, ⟨u, n, d, hd, rfl, rfl, rfl, h1, h2⟩ | ⟨hd, rfl, rfl, rfl⟩⟩
    · simp only at hg2 h2 ⊢
      have hgl := hg2.len
      have y7 := hg2.get hI.b7
      have y8 := hg2.get hI.b8
      have f3 : ldSl M2 ⟨m.length + 4, 0, none⟩ = some ⟨out, i * 58, i * 58⟩ := ldSl_of y7 rfl
      have f4 : rdSl M2 (some ⟨d, 0, none⟩) 58 1 = some (bys 58 u) := Src.take (sp := none) h2 (by omega)
      have hA := hI.out_.keep (m' := M2) fun p o _ ho => hg2.get ho
      obtain ⟨M3, q1, q2, q3, q4, q5, q6⟩ := hA.app (u := u) (l := 58) (by omega) (by omega) (by unfold most; omega)
      have outne : ∀ q, out = some ⟨q, 0, some 1⟩ → ML.length ≤ q ∧ q < M.length := by
        rintro q rfl
        rcases hI.out_ with ⟨h, _⟩ | ⟨q', h, h1, h2⟩
        · cases h
        · simp only [Option.some.injEq, Addr.mk.injEq, and_true] at h
          subst h
          exact ⟨h1, get_lt h2⟩
      have y7b : M3[m.length + 4]? = _ := (q5 _ (by omega) fun q hq => by have := outne q hq; omega).trans y7
      have y8b : M3[m.length + 5]? = _ := (q5 _ (by omega) fun q hq => by have := outne q hq; omega).trans y8
      have f5 := st_wr (sp := none) (off := 0) (v := .slice (some ⟨M2.length, 0, some 1⟩) (i * 58 + 58) (i * 58 + 58)) y7b (by simp)
      have y8c : (wr M3 (m.length + 4) (([.slice out (i * 58) (i * 58)] : List Value).set 0 (.slice (some ⟨M2.length, 0, some 1⟩) (i * 58 + 58) (i * 58 + 58))))[m.length + 5]? = some (.live [.int .i64 (mxN N i : Nat)]) := by rw [wr_ne (by omega)]; exact y8b
      have f6 : ldInt .i64 (wr M3 (m.length + 4) (([.slice out (i * 58) (i * 58)] : List Value).set 0 (.slice (some ⟨M2.length, 0, some 1⟩) (i * 58 + 58) (i * 58 + 58)))) ⟨m.length + 5, 0, none⟩ = some ((mxN N i : Nat) : Int) := ldInt_of y8c rfl
      have f7 := st_wr (sp := none) (off := 0) (v := .int .i64 (maxI (mxN N i : Nat) (n : Nat))) y8c (by simp)
      simp (disch := omega) only [Option.bind_some, Option.map_some, cond_true, cond_false, wrap_i64, tmod_pos, tdiv_pos, inRange_yes, inUpto_yes, isZero_no, decide_eq_true, decide_eq_false, Bool.not_true, Bool.not_false, Int.toNat_natCast, Nat.mul_one, beqI_yes, beqI_no, bneI_yes, bneI_no, isNil_nil, isNil_iface, wr_wr, Option.isNone_none, Option.isNone_some, plus, Nat.zero_add, Nat.add_zero, isNil_nil, f3, f4, q1, f5, f6, f7]
      have hst7 : ([.slice out (i * 58) (i * 58)] : List Value).set 0 (.slice (some ⟨M2.length, 0, some 1⟩) (i * 58 + 58) (i * 58 + 58)) = [.slice (some ⟨M2.length, 0, some 1⟩) (i * 58 + 58) (i * 58 + 58)] := rfl
      have hst8 : ([.int .i64 (mxN N i : Nat)] : List Value).set 0 (.int .i64 (maxI (mxN N i : Nat) (n : Nat))) = [.int .i64 (maxI (mxN N i : Nat) (n : Nat))] := rfl
      rw [hst7, hst8]
      rw [hst7] at y8c
      refine hnx (r - 1) _ _ (by omega) ⟨i + 1, some ⟨M2.length, 0, some 1⟩, fun j => if j = i then u else U j, fun j => if j = i then n else N j, rfl, by omega, ⟨?_, ?_, ?_, ?_, ?_, ?_, ?_⟩⟩
      · rw [wr_len, wr_len]; omega
      · exact ((q6 m (hI.gr.trans hg2) (by have := gL.len; omega)).wr (by omega) _).wr (by omega) _
      · intro p hp h7 h8
        rw [wr_ne (Ne.symm h8), wr_ne (Ne.symm h7), q5 p (by omega) fun q hq => by have := outne q hq; omega, ← hI.old p hp h7 h8]
        obtain ⟨g, rfl⟩ := hg2
        exact get_app_lt (by omega)
      · rw [wr_ne (by omega), show (i + 1) * 58 = i * 58 + 58 by omega]; exact wr_get y7b
      · rw [wr_get y8c]
        have hmx : mxN (fun j => if j = i then n else N j) (i + 1) = max (mxN N i) n := by
          have hc : ∀ t, t ≤ i → mxN (fun j => if j = i then n else N j) t = mxN N t := by
            intro t
            induction t with
            | zero => exact fun _ => rfl
            | succ t ih => intro ht; rw [mxN, mxN, ih (by omega), if_neg (by omega)]
          rw [mxN, hc i (Nat.le_refl _), if_pos rfl]
        rw [hmx, maxI_nat]
      · have q2' := q2.keep (m' := wr (wr M3 (m.length + 4) [.slice (some ⟨M2.length, 0, some 1⟩) (i * 58 + 58) (i * 58 + 58)]) (m.length + 5) [.int .i64 (maxI (mxN N i : Nat) (n : Nat))]) fun p o hp ho => by rw [wr_ne (by omega), wr_ne (by omega)]; exact ho
        rw [show (i + 1) * 58 = i * 58 + 58 by omega]
        refine q2'.congr fun j hj => ?_
        by_cases h5 : j < i * 58
        · rw [if_pos h5, if_neg (by omega)]
        · rw [if_neg h5, if_pos (by omega), show j % 58 = j - i * 58 by omega]
      · intro j hj
        by_cases h5 : j = i
        · subst h5; simp only [↓reduceIte]; exact hd
        · simp only [if_neg h5]; exact hI.dec_ j (by omega)
    · simp only at hg2 ⊢
      have e3 : isNil (errC 5) = some false := rfl
      have e4 : isOne (errC 5) = true := rfl
      obtain ⟨A4, A5, A6, a1, a2, a3, a4, a5, a6, _, _, a9⟩ := fin M2 ⟨none, 0, 0⟩ 0 (errC 5) .dead .dead .dead (hg2.get b_4) (hg2.get b_5) (hg2.get b_6)
      simp only at a1
      simp (disch := omega) only [Option.bind_some, Option.map_some, cond_true, cond_false, wrap_i64, tmod_pos, tdiv_pos, inRange_yes, inUpto_yes, isZero_no, decide_eq_true, decide_eq_false, Bool.not_true, Bool.not_false, Int.toNat_natCast, Nat.mul_one, beqI_yes, beqI_no, bneI_yes, bneI_no, isNil_nil, isNil_iface, wr_wr, Option.isNone_none, Option.isNone_some, plus, Nat.zero_add, Nat.add_zero, e3, e4, a1, a2, a3, a4, a5, a6]
      exact .some ⟨a9 m (hI.gr.trans hg2) (Nat.le_refl _), .inr ⟨i, hi, hd, rfl, rfl, rfl⟩⟩
  · obtain rfl : i = 3 := by omega
    rw [pcs_end (s := 64) b1 b2 (by omega) (by omega) (by omega) (by omega)]
    rcases hI.out_ with ⟨_, h⟩ | ⟨q, rfl, hq1, hq2⟩
    · omega
    have f1 : ldSl M ⟨m.length + 4, 0, none⟩ = some ⟨some ⟨q, 0, some 1⟩, 174, 174⟩ := ldSl_of hI.b7 rfl
    have f2 : ldInt .i64 M ⟨m.length + 5, 0, none⟩ = some ((mxN N 3 : Nat) : Int) := ldInt_of hI.b8 rfl
    obtain ⟨A4, A5, A6, a1, a2, a3, a4, a5, a6, a7, a8, a9⟩ := fin M ⟨some ⟨q, 0, some 1⟩, 174, 174⟩ (mxN N 3 : Nat) .nilIface .dead .dead .dead b_4 b_5 b_6
    have f3 : ldInt .i64 A4 ⟨m.length + 5, 0, none⟩ = some ((mxN N 3 : Nat) : Int) := ldInt_of (by rw [a8 _ (by omega)]; exact hI.b8) rfl
    have f4 : (((mxN N 3 : Nat) : Int) == ((mxN N 3 : Nat) : Int)) = true := by simp
    simp only at a1
    simp (disch := omega) only [Option.bind_some, Option.map_some, cond_true, cond_false, wrap_i64, tmod_pos, tdiv_pos, inRange_yes, inUpto_yes, isZero_no, decide_eq_true, decide_eq_false, Bool.not_true, Bool.not_false, Int.toNat_natCast, Nat.mul_one, beqI_yes, beqI_no, bneI_yes, bneI_no, isNil_nil, isNil_iface, wr_wr, Option.isNone_none, Option.isNone_some, plus, Nat.zero_add, Nat.add_zero, f1, f2, a1, a2, a3, f3, f4, a4, a5, a6]
    refine .some ⟨a9 m hI.gr (Nat.le_refl _), .inl ⟨U, N, q, hI.dec_, rfl, rfl, rfl, by omega, ?_⟩⟩
    show A6[q]? = _
    rw [a7 q (by omega) (by omega) (by omega)]
    exact hq2
end
end Go.Proofs.Ytchonnaoojpdoaa

/- The document's frame: a page is read; and pages that may not be. -/
set_option linter.unusedVariables false
set_option linter.unusedSectionVars false
set_option linter.unusedSimpArgs false
namespace Go.Proofs.Ytchonnaoojpdoaa
open Go.Mx

theorem body_no (k : Nat) {m : Mem} {c : Option Addr} {a : Option Addr} {n ca : Nat} (h : n ≠ 256) : frame_Frame_Body k c a n ca m = some (⟨none, 0, 0⟩, 0, errC 1, m) := by
  unfold frame_Frame_Body
  rw [message_no k (fun h2 => h h2.1)]
  rfl
theorem data_no (k : Nat) {m : Mem} {c : Nat} {a : Option Addr} {n ca : Nat} (h : n ≠ 256) : Ok (frame_Frame_Data k (some ⟨c, 0, none⟩) a n ca m) fun r => r.1 = ⟨none, 0, 0⟩ ∧ r.2.1 = 0 ∧ r.2.2.1 = errC 1 ∧ Gr m r.2.2.2 := by
  unfold frame_Frame_Data
  have e1 : (((n : Nat) : Int) != 256) = true := bneI_yes (by omega)
  have l1 : (m ++ [MObj.live [Value.pointer (some ⟨c, 0, none⟩)]]).length = m.length + 1 := by simp
  have l2 : ((m ++ [MObj.live [Value.pointer (some ⟨c, 0, none⟩)]]) ++ [MObj.live [.slice none 0 0]]).length = m.length + 2 := by simp
  have l3 : (((m ++ [MObj.live [Value.pointer (some ⟨c, 0, none⟩)]]) ++ [MObj.live [.slice none 0 0]]) ++ [MObj.live [.int .i64 0]]).length = m.length + 3 := by simp
  have g4 := ((((Gr.app m [.live [Value.pointer (some ⟨c, 0, none⟩)]]).trans (Gr.app _ [.live [.slice none 0 0]])).trans (Gr.app _ [.live [.int .i64 0]])).trans (Gr.app _ [.live [.nilIface]]))
  have x4 : ((((m ++ [MObj.live [Value.pointer (some ⟨c, 0, none⟩)]]) ++ [MObj.live [.slice none 0 0]]) ++ [MObj.live [.int .i64 0]]) ++ [MObj.live [.nilIface]])[m.length + 1]? = some (.live [.slice none 0 0]) := get_grow (get_grow (get_last (by simp)))
  have x5 : ((((m ++ [MObj.live [Value.pointer (some ⟨c, 0, none⟩)]]) ++ [MObj.live [.slice none 0 0]]) ++ [MObj.live [.int .i64 0]]) ++ [MObj.live [.nilIface]])[m.length + 2]? = some (.live [.int .i64 0]) := get_grow (get_last (by simp))
  have x6 : ((((m ++ [MObj.live [Value.pointer (some ⟨c, 0, none⟩)]]) ++ [MObj.live [.slice none 0 0]]) ++ [MObj.live [.int .i64 0]]) ++ [MObj.live [.nilIface]])[m.length + 3]? = some (.live [.nilIface]) := get_last (by simp)
  simp (disch := omega) only [Option.bind_some, Option.map_some, cond_true, cond_false, wrap_i64, tmod_pos, tdiv_pos, inRange_yes, inUpto_yes, isZero_no, decide_eq_true, decide_eq_false, Bool.not_true, Bool.not_false, Int.toNat_natCast, Nat.mul_one, beqI_yes, beqI_no, bneI_yes, bneI_no, isNil_nil, isNil_iface, wr_wr, Option.isNone_none, Option.isNone_some, plus, Nat.zero_add, Nat.add_zero, l1, l2, l3, e1]
  generalize (((m ++ [MObj.live [Value.pointer (some ⟨c, 0, none⟩)]]) ++ [MObj.live [.slice none 0 0]]) ++ [MObj.live [.int .i64 0]]) ++ [MObj.live [.nilIface]] = M at *
  have f4 := st_wr (sp := none) (off := 0) (v := .slice none 0 0) x4 (by simp)
  have y5 : (wr M (m.length + 1) (([.slice none 0 0] : List Value).set 0 (.slice none 0 0)))[m.length + 2]? = some (.live [.int .i64 0]) := by rw [wr_ne (by omega)]; exact x5
  have f5 := st_wr (sp := none) (off := 0) (v := .int .i64 0) y5 (by simp)
  have y6 : (wr (wr M (m.length + 1) (([.slice none 0 0] : List Value).set 0 (.slice none 0 0))) (m.length + 2) (([.int .i64 0] : List Value).set 0 (.int .i64 0)))[m.length + 3]? = some (.live [.nilIface]) := by rw [wr_ne (by omega), wr_ne (by omega)]; exact x6
  have f6 := st_wr (sp := none) (off := 0) (v := errC 1) y6 (by simp)
  rw [errC_pos (by omega)] at f6
  have g1 := ldSl_of (m := wr (wr (wr M (m.length + 1) (([.slice none 0 0] : List Value).set 0 (.slice none 0 0))) (m.length + 2) (([.int .i64 0] : List Value).set 0 (.int .i64 0))) (m.length + 3) (([.nilIface] : List Value).set 0 (.iface ty_api_Code (.int .i64 1)))) (b := m.length + 1) (off := 0) (sp := none) (cs := [.slice none 0 0]) (by rw [wr_ne (by omega), wr_ne (by omega)]; exact wr_get x4) rfl
  have g2 := ldInt_of (m := wr (wr (wr M (m.length + 1) (([.slice none 0 0] : List Value).set 0 (.slice none 0 0))) (m.length + 2) (([.int .i64 0] : List Value).set 0 (.int .i64 0))) (m.length + 3) (([.nilIface] : List Value).set 0 (.iface ty_api_Code (.int .i64 1)))) (b := m.length + 2) (off := 0) (sp := none) (cs := [.int .i64 0]) (by rw [wr_ne (by omega)]; exact wr_get y5) rfl
  have g3 := ldVal_of (m := wr (wr (wr M (m.length + 1) (([.slice none 0 0] : List Value).set 0 (.slice none 0 0))) (m.length + 2) (([.int .i64 0] : List Value).set 0 (.int .i64 0))) (m.length + 3) (([.nilIface] : List Value).set 0 (.iface ty_api_Code (.int .i64 1)))) (b := m.length + 3) (off := 0) (sp := none) (cs := [.iface ty_api_Code (.int .i64 1)]) (wr_get y6) rfl
  simp (disch := omega) only [Option.bind_some, Option.map_some, cond_true, cond_false, wrap_i64, tmod_pos, tdiv_pos, inRange_yes, inUpto_yes, isZero_no, decide_eq_true, decide_eq_false, Bool.not_true, Bool.not_false, Int.toNat_natCast, Nat.mul_one, beqI_yes, beqI_no, bneI_yes, bneI_no, isNil_nil, isNil_iface, wr_wr, Option.isNone_none, Option.isNone_some, plus, Nat.zero_add, Nat.add_zero, f4, f5, f6, g1, g2, g3]
  exact .some ⟨rfl, rfl, by rw [errC_pos (by omega)], ((g4.wr (by omega) _).wr (by omega) _).wr (by omega) _⟩
end Go.Proofs.Ytchonnaoojpdoaa

/- What the frame and the document's frame read of a page, told by functions of its bytes. -/
set_option linter.unusedVariables false
set_option linter.unusedSectionVars false
set_option linter.unusedSimpArgs false
namespace Go.Proofs.Ytchonnaoojpdoaa
open Go.Mx

/-- what is read: how many bytes, which, the count, the error's number -/
structure Told where
  n : Nat
  w : Nat → GF
  a : Nat
  e : Int
def Told.no (e : Int) : Told := ⟨0, fun _ => 0, 0, e⟩
open Classical in
noncomputable def msgS (n : Nat) (w : Nat → GF) (p : Int) : Told := if n = 256 ∧ 0 ≤ p ∧ p ≤ 3 then (match GF.dec (wd w p.toNat) with | some (u, a) => ⟨58, u, a, 0⟩ | none => .no 5) else .no 1
noncomputable def dW (w : Nat → GF) (j : Nat) : Nat → GF := match GF.dec (wd w j) with | some (u, _) => u | none => fun _ => 0
noncomputable def dN (w : Nat → GF) (j : Nat) : Nat := match GF.dec (wd w j) with | some (_, n) => n | none => 0
def dIs (w : Nat → GF) (j : Nat) : Prop := GF.dec (wd w j) ≠ none
open Classical in
noncomputable def dataS (n : Nat) (w : Nat → GF) : Told := if n = 256 then (if dIs w 0 ∧ dIs w 1 ∧ dIs w 2 then ⟨174, fun j => dW w (j / 58) (j % 58), mxN (dN w) 3, 0⟩ else .no 5) else .no 1
open Classical in
noncomputable def bodyS (n : Nat) (w : Nat → GF) : Told := if n = 256 then (match GF.dec (wd w 3) with | some (u, a) => if marked u then ⟨50, u, a, 0⟩ else .no 6 | none => .no 5) else .no 1
def codeOk (t : Told) : Prop := 0 ≤ t.e ∧ t.e < 20
theorem msgS_code {n : Nat} {w : Nat → GF} {p : Int} : codeOk (msgS n w p) := by
  unfold msgS codeOk; split
  · split <;> simp [Told.no]
  · simp [Told.no]
theorem dataS_code {n : Nat} {w : Nat → GF} : codeOk (dataS n w) := by
  unfold dataS codeOk; split
  · split <;> simp [Told.no]
  · simp [Told.no]
theorem bodyS_code {n : Nat} {w : Nat → GF} : codeOk (bodyS n w) := by
  unfold bodyS codeOk; split
  · split
    · split <;> simp [Told.no]
    · simp [Told.no]
  · simp [Told.no]
theorem msgS_len {n : Nat} {w : Nat → GF} {p : Int} : (msgS n w p).n < 1000 := by
  unfold msgS; split
  · split <;> simp [Told.no]
  · simp [Told.no]
theorem dataS_len {n : Nat} {w : Nat → GF} : (dataS n w).n < 1000 := by
  unfold dataS; split
  · split <;> simp [Told.no]
  · simp [Told.no]
theorem bodyS_len {n : Nat} {w : Nat → GF} : (bodyS n w).n < 1000 := by
  unfold bodyS; split
  · split
    · split <;> simp [Told.no]
    · simp [Told.no]
  · simp [Told.no]

/-- what the code told: a slice of its own -/
def FOut (m m' : Mem) (s : Sl) (a : Int) (e : Value) (t : Told) : Prop := ∃ R L, s = ⟨rowA R, t.n, t.n⟩ ∧ RowLive m' R t.n L (fun u => ∀ i, i < t.n → u i = t.w i) ∧ (∀ D, rowD R = some D → m.length ≤ D) ∧ a = (t.a : Int) ∧ e = errC t.e ∧ Gr m m'
/-- .. and the document -/
def ROut (m m' : Mem) (s : Sl) (a : Int) (e : Int) (t : Told) : Prop := s.len = t.n ∧ Src m' s.a t.n t.w ∧ a = (t.a : Int) ∧ e = t.e ∧ Gr m m'
theorem FOut.no {m m' : Mem} {e : Int} (h : Gr m m') : FOut m m' ⟨none, 0, 0⟩ 0 (errC e) (.no e) := ⟨none, 0, rfl, rfl, (fun D h => nomatch h), rfl, rfl, h⟩
theorem ROut.no {m m' : Mem} {e : Int} (h : Gr m m') : ROut m m' ⟨none, 0, 0⟩ 0 e (.no e) := ⟨rfl, rfl, rfl, rfl, h⟩
section
variable (k : Nat) (hk : 1000 < k) {m : Mem} {a : Option Addr} {n ca : Nat} {w : Nat → GF} (hw : Src m a n w) (hs : n = 256 → ∃ ad, a = some ad ∧ okS ad) (hca : n ≤ ca)
include hk hw hs hca

variable {c : Nat} (hC : Frm m c)
include hC
theorem msgF (p : Int) : Ok (frame_Frame_Message k (some ⟨c, 0, none⟩) a n ca p m) fun r => FOut m r.2.2.2 r.1 r.2.1 r.2.2.1 (msgS n w p) := by
  by_cases h : n = 256 ∧ 0 ≤ p ∧ p ≤ 3
  · obtain ⟨rfl, h1, h2⟩ := h
    obtain ⟨ad, rfl, hsa⟩ := hs rfl
    obtain ⟨i, rfl⟩ := Int.eq_ofNat_of_zero_le h1
    refine (message_ok' k hk hC hw hsa hca (i := i) (by omega)).mono ?_
    rintro ⟨_, _, _, m1⟩ ⟨hg, ⟨u, a, d, h1, rfl, rfl, rfl, h2, h3⟩ | ⟨h1, rfl, rfl, rfl⟩⟩
    · unfold msgS
      simp only [Int.toNat_natCast, h1, and_self, if_true, Int.natCast_nonneg, show (i : Int) ≤ 3 by omega]
      exact ⟨some (d, false), 64, rfl, ⟨u, h3, fun i _ => rfl, by simp, fun h => nomatch h⟩, (fun D h => by cases h; exact h2), rfl, rfl, hg⟩
    · unfold msgS
      simp only [Int.toNat_natCast, h1, and_self, if_true, Int.natCast_nonneg, show (i : Int) ≤ 3 by omega]
      exact .no hg
  · rw [message_no k h]
    unfold msgS
    rw [if_neg h]
    exact .some (.no (Gr.refl _))
theorem dataF : Ok (frame_Frame_Data k (some ⟨c, 0, none⟩) a n ca m) fun r => FOut m r.2.2.2 r.1 r.2.1 r.2.2.1 (dataS n w) := by
  by_cases h : n = 256
  · subst h
    obtain ⟨ad, rfl, hsa⟩ := hs rfl
    refine (data_ok k hk hC hw hsa hca).mono ?_
    rintro ⟨_, _, _, m1⟩ ⟨hg, ⟨U, N, q, hd, rfl, rfl, rfl, h3, h4⟩ | ⟨j, hj, h1, rfl, rfl, rfl⟩⟩
    · have hU : ∀ j, j < 3 → dW w j = U j ∧ dN w j = N j ∧ dIs w j := fun j hj => by
        unfold dW dN dIs; rw [hd j hj]; exact ⟨rfl, rfl, by simp⟩
      unfold dataS
      rw [if_pos rfl, if_pos ⟨(hU 0 (by omega)).2.2, (hU 1 (by omega)).2.2, (hU 2 (by omega)).2.2⟩]
      refine ⟨some (q, true), 174, rfl, ⟨_, h4, fun i hi => ?_, Nat.le_refl _, fun _ => rfl⟩, (fun D h => by cases h; exact h3), ?_, rfl, hg⟩
      · have hi : i < 174 := hi
        show _ = dW w (i / 58) (i % 58)
        rw [(hU (i / 58) (by omega)).1]
      · simp only [mxN, (hU 0 (by omega)).2.1, (hU 1 (by omega)).2.1, (hU 2 (by omega)).2.1]
    · unfold dataS
      rw [if_pos rfl, if_neg ?_]
      · exact .no hg
      · rintro ⟨a, b, c⟩
        have : j = 0 ∨ j = 1 ∨ j = 2 := by omega
        rcases this with rfl | rfl | rfl
        · exact a h1
        · exact b h1
        · exact c h1
  · refine (data_no k h).mono ?_
    rintro ⟨_, _, _, m1⟩ ⟨rfl, rfl, rfl, hg⟩
    unfold dataS
    rw [if_neg h]
    exact .no hg
theorem bodyF : Ok (frame_Frame_Body k (some ⟨c, 0, none⟩) a n ca m) fun r => FOut m r.2.2.2 r.1 r.2.1 r.2.2.1 (bodyS n w) := by
  by_cases h : n = 256
  · subst h
    obtain ⟨ad, rfl, hsa⟩ := hs rfl
    refine (body_ok k hk hC hw hsa hca).mono ?_
    rintro ⟨_, _, _, m1⟩ ⟨hg, ⟨u, a, d, h1, hm, rfl, rfl, rfl, h2, h3⟩ | ⟨u, a, h1, hm, rfl, rfl, rfl⟩ | ⟨h1, rfl, rfl, rfl⟩⟩
    · unfold bodyS
      simp only [if_true, h1, if_pos hm]
      exact ⟨some (d, false), 58, rfl, ⟨u, h3, fun i _ => rfl, by simp, fun h => nomatch h⟩, (fun D h => by cases h; exact h2), rfl, rfl, hg⟩
    · unfold bodyS
      simp only [if_true, h1, if_neg hm]
      exact .no hg
    · unfold bodyS
      simp only [if_true, h1]
      exact .no hg
  · rw [body_no k h]
    unfold bodyS
    rw [if_neg h]
    exact .some (.no (Gr.refl _))
end
end Go.Proofs.Ytchonnaoojpdoaa

/- Errors as numbers. -/
set_option linter.unusedVariables false
set_option linter.unusedSimpArgs false
namespace Go.Proofs.Ytchonnaoojpdoaa
open Go.Mx

end Go.Proofs.Ytchonnaoojpdoaa

/- What a chip is, and what is loaded and stored of it. -/
set_option linter.unusedVariables false
set_option linter.unusedSectionVars false
set_option linter.unusedSimpArgs false
namespace Go.Proofs.Ytchonnaoojpdoaa
open Go.Mx

structure ChunkS where
  now : Int → Int
  tru : Int → Int
  is : Bool
  worst : Int
structure BlockS where
  ch : Int → ChunkS
  reads : Int
  failed : Bool
  before : Int
  atErase : Bool
structure ChipS where
  b : Int → BlockS
  off : Bool
  cut : Bool
  budget : Int
  steps : Int

def chunkC (c : ChunkS) : List Value := arr .u8 64 c.now ++ (arr .u8 64 c.tru ++ [.bool c.is, .int .i64 c.worst])
def blockC (β : BlockS) : List Value := farr 32 (fun j => chunkC (β.ch j)) ++ [.int .i64 β.reads, .bool β.failed, .int .i64 β.before, .bool β.atErase]
def chipC (σ : ChipS) : List Value := farr 12 (fun i => blockC (σ.b i)) ++ [.bool σ.off, .bool σ.cut, .int .i64 σ.budget, .int .i64 σ.steps]
def ChipS.updB (σ : ChipS) (x : Int) (β : BlockS) : ChipS := { σ with b := upd σ.b x β }
def BlockS.updC (β : BlockS) (j : Int) (c : ChunkS) : BlockS := { β with ch := upd β.ch j c }
/-- a page's chunk -/
def ChipS.at_ (σ : ChipS) (p k : Int) : ChunkS := (σ.b (p / 8)).ch (p % 8 * 4 + k)
def ChipS.put (σ : ChipS) (p k : Int) (c : ChunkS) : ChipS := σ.updB (p / 8) ((σ.b (p / 8)).updC (p % 8 * 4 + k) c)
def chA (p k : Int) : Nat := (p / 8).toNat * 4164 + (p % 8).toNat * 520 + k.toNat * 130

theorem chunkC_len (c : ChunkS) : (chunkC c).length = 130 := by simp [chunkC]
theorem chunks_len (β : BlockS) : (farr 32 (fun j => chunkC (β.ch j))).length = 4160 := farr_len (z := 130) fun _ _ _ => chunkC_len _
theorem blockC_len (β : BlockS) : (blockC β).length = 4164 := by unfold blockC; rw [List.length_append, chunks_len]; rfl
theorem blocks_len (σ : ChipS) : (farr 12 (fun i => blockC (σ.b i))).length = 49968 := farr_len (z := 4164) fun _ _ _ => blockC_len _
theorem chipC_len (σ : ChipS) : (chipC σ).length = 49972 := by unfold chipC; rw [List.length_append, blocks_len]; rfl

theorem upd_map {α β : Type} (f : Int → α) (g : α → β) (x : Int) (v : α) : (fun i => g (upd f x v i)) = upd (fun i => g (f i)) x (g v) := by
  funext i; unfold upd; split <;> rfl

section
variable {β : BlockS} {j : Nat} (hj : j < 32)
include hj
theorem block_cell {y : Nat} (hy : y < 130) : (blockC β)[j * 130 + y]? = (chunkC (β.ch j))[y]? := by
  unfold blockC
  rw [List.getElem?_append_left (by rw [chunks_len]; omega)]
  exact farr_get (f := fun j => chunkC (β.ch j)) (fun _ _ _ => chunkC_len _) hj hy
theorem block_set {y : Nat} (hy : y < 130) {v : Value} {c : ChunkS} (h : (chunkC (β.ch j)).set y v = chunkC c) : (blockC β).set (j * 130 + y) v = blockC (β.updC j c) := by
  unfold blockC
  rw [List.set_append_left _ _ (by rw [chunks_len]; omega), farr_set (f := fun j => chunkC (β.ch j)) (fun _ _ _ => chunkC_len _) hj hy]
  simp only [BlockS.updC, upd_map, h]
theorem block_sub {o l : Nat} (hl : o + l ≤ 130) : ((blockC β).drop (j * 130 + o)).take l = ((chunkC (β.ch j)).drop o).take l := by
  unfold blockC
  rw [List.drop_append_of_le_length (by rw [chunks_len]; omega), List.take_append_of_le_length (by rw [List.length_drop, chunks_len]; omega)]
  exact farr_sub (f := fun j => chunkC (β.ch j)) (fun _ _ _ => chunkC_len _) hj hl
theorem block_put {o : Nat} {vs : List Value} (hl : o + vs.length ≤ 130) {c : ChunkS} (h : (chunkC (β.ch j)).take o ++ vs ++ (chunkC (β.ch j)).drop (o + vs.length) = chunkC c) :
    (blockC β).take (j * 130 + o) ++ vs ++ (blockC β).drop (j * 130 + o + vs.length) = blockC (β.updC j c) := by
  unfold blockC
  rw [List.take_append_of_le_length (by rw [chunks_len]; omega), List.drop_append_of_le_length (by rw [chunks_len]; omega), ← List.append_assoc,
    farr_put (f := fun j => chunkC (β.ch j)) (fun _ _ _ => chunkC_len _) hj hl]
  simp only [BlockS.updC, upd_map, h]
end
section
variable {σ : ChipS} {x : Int} (h0 : 0 ≤ x) (h1 : x < 12)
include h0 h1
theorem chip_bcell {y : Nat} (hy : y < 4164) : (chipC σ)[x.toNat * 4164 + y]? = (blockC (σ.b x))[y]? := by
  unfold chipC
  rw [List.getElem?_append_left (by rw [blocks_len]; omega)]
  have := farr_get (f := fun j => blockC (σ.b j)) (n := 12) (i := x.toNat) (fun _ _ _ => blockC_len _) (by omega) hy
  rw [show ((x.toNat : Nat) : Int) = x by omega] at this
  exact this
theorem chip_bset {y : Nat} (hy : y < 4164) {v : Value} {β : BlockS} (h : (blockC (σ.b x)).set y v = blockC β) : (chipC σ).set (x.toNat * 4164 + y) v = chipC (σ.updB x β) := by
  unfold chipC
  have := farr_set (f := fun j => blockC (σ.b j)) (n := 12) (i := x.toNat) (fun _ _ _ => blockC_len _) (by omega) hy v
  rw [show ((x.toNat : Nat) : Int) = x by omega] at this
  rw [List.set_append_left _ _ (by rw [blocks_len]; omega), this]
  simp only [ChipS.updB, upd_map, h]
theorem chip_bsub {o l : Nat} (hl : o + l ≤ 4164) : ((chipC σ).drop (x.toNat * 4164 + o)).take l = ((blockC (σ.b x)).drop o).take l := by
  unfold chipC
  rw [List.drop_append_of_le_length (by rw [blocks_len]; omega), List.take_append_of_le_length (by rw [List.length_drop, blocks_len]; omega)]
  have := farr_sub (f := fun j => blockC (σ.b j)) (n := 12) (i := x.toNat) (fun _ _ _ => blockC_len _) (by omega) hl
  rw [show ((x.toNat : Nat) : Int) = x by omega] at this
  exact this
theorem chip_bput {o : Nat} {vs : List Value} (hl : o + vs.length ≤ 4164) {β : BlockS} (h : (blockC (σ.b x)).take o ++ vs ++ (blockC (σ.b x)).drop (o + vs.length) = blockC β) :
    (chipC σ).take (x.toNat * 4164 + o) ++ vs ++ (chipC σ).drop (x.toNat * 4164 + o + vs.length) = chipC (σ.updB x β) := by
  unfold chipC
  have := farr_put (f := fun j => blockC (σ.b j)) (n := 12) (i := x.toNat) (fun _ _ _ => blockC_len _) (by omega) hl
  rw [show ((x.toNat : Nat) : Int) = x by omega] at this
  rw [List.take_append_of_le_length (by rw [blocks_len]; omega), List.drop_append_of_le_length (by rw [blocks_len]; omega), ← List.append_assoc, this]
  simp only [ChipS.updB, upd_map, h]
end

/-- a page and a chunk that there are -/
def isAt (p k : Int) : Prop := 0 ≤ p ∧ p < 96 ∧ 0 ≤ k ∧ k < 4
section
variable {σ : ChipS} {p k : Int} (hp : isAt p k)
include hp
theorem chA_eq (y : Nat) : chA p k + y = (p / 8).toNat * 4164 + ((p % 8 * 4 + k).toNat * 130 + y) := by
  obtain ⟨h0, h1, h2, h3⟩ := hp
  unfold chA; omega
theorem chip_cell {y : Nat} (hy : y < 130) : (chipC σ)[chA p k + y]? = (chunkC (σ.at_ p k))[y]? := by
  have ⟨h0, h1, h2, h3⟩ := hp
  rw [chA_eq hp, chip_bcell (by omega) (by omega) (by omega), block_cell (by omega) hy]
  unfold ChipS.at_
  rw [show (((p % 8 * 4 + k).toNat : Nat) : Int) = p % 8 * 4 + k by omega]
theorem chip_set {y : Nat} (hy : y < 130) {v : Value} {c : ChunkS} (h : (chunkC (σ.at_ p k)).set y v = chunkC c) : (chipC σ).set (chA p k + y) v = chipC (σ.put p k c) := by
  have ⟨h0, h1, h2, h3⟩ := hp
  rw [chA_eq hp]
  refine chip_bset (by omega) (by omega) (by omega) ?_
  have := block_set (β := σ.b (p / 8)) (j := (p % 8 * 4 + k).toNat) (by omega) hy (v := v) (c := c)
  rw [show (((p % 8 * 4 + k).toNat : Nat) : Int) = p % 8 * 4 + k by omega] at this
  exact this h
theorem chip_sub {o l : Nat} (hl : o + l ≤ 130) : ((chipC σ).drop (chA p k + o)).take l = ((chunkC (σ.at_ p k)).drop o).take l := by
  have ⟨h0, h1, h2, h3⟩ := hp
  rw [chA_eq hp, chip_bsub (by omega) (by omega) (by omega), block_sub (by omega) hl]
  unfold ChipS.at_
  rw [show (((p % 8 * 4 + k).toNat : Nat) : Int) = p % 8 * 4 + k by omega]
theorem chip_put {o : Nat} {vs : List Value} (hl : o + vs.length ≤ 130) {c : ChunkS} (h : (chunkC (σ.at_ p k)).take o ++ vs ++ (chunkC (σ.at_ p k)).drop (o + vs.length) = chunkC c) :
    (chipC σ).take (chA p k + o) ++ vs ++ (chipC σ).drop (chA p k + o + vs.length) = chipC (σ.put p k c) := by
  have ⟨h0, h1, h2, h3⟩ := hp
  rw [chA_eq hp]
  refine chip_bput (by omega) (by omega) (by omega) ?_
  have := block_put (β := σ.b (p / 8)) (j := (p % 8 * 4 + k).toNat) (by omega) hl (c := c)
  rw [show (((p % 8 * 4 + k).toNat : Nat) : Int) = p % 8 * 4 + k by omega] at this
  exact this h
end
theorem chip_off (σ : ChipS) : (chipC σ)[49968]? = some (.bool σ.off) := by unfold chipC; rw [List.getElem?_append_right (by rw [blocks_len]; omega), blocks_len]; rfl
theorem chip_cut (σ : ChipS) : (chipC σ)[49969]? = some (.bool σ.cut) := by unfold chipC; rw [List.getElem?_append_right (by rw [blocks_len]; omega), blocks_len]; rfl
theorem chip_budget (σ : ChipS) : (chipC σ)[49970]? = some (.int .i64 σ.budget) := by unfold chipC; rw [List.getElem?_append_right (by rw [blocks_len]; omega), blocks_len]; rfl
theorem chip_steps (σ : ChipS) : (chipC σ)[49971]? = some (.int .i64 σ.steps) := by unfold chipC; rw [List.getElem?_append_right (by rw [blocks_len]; omega), blocks_len]; rfl
theorem chip_setoff (σ : ChipS) (v : Bool) : (chipC σ).set 49968 (.bool v) = chipC { σ with off := v } := by unfold chipC; rw [List.set_append_right _ _ (by rw [blocks_len]; omega), blocks_len]; rfl
theorem chip_setcut (σ : ChipS) (v : Bool) : (chipC σ).set 49969 (.bool v) = chipC { σ with cut := v } := by unfold chipC; rw [List.set_append_right _ _ (by rw [blocks_len]; omega), blocks_len]; rfl
theorem chip_setbudget (σ : ChipS) (v : Int) : (chipC σ).set 49970 (.int .i64 v) = chipC { σ with budget := v } := by unfold chipC; rw [List.set_append_right _ _ (by rw [blocks_len]; omega), blocks_len]; rfl
theorem chip_setsteps (σ : ChipS) (v : Int) : (chipC σ).set 49971 (.int .i64 v) = chipC { σ with steps := v } := by unfold chipC; rw [List.set_append_right _ _ (by rw [blocks_len]; omega), blocks_len]; rfl
theorem block_at (β : BlockS) (q : Nat) : (blockC β)[4160 + q]? = [Value.int .i64 β.reads, .bool β.failed, .int .i64 β.before, .bool β.atErase][q]? := by
  unfold blockC; rw [List.getElem?_append_right (by rw [chunks_len]; omega), chunks_len, Nat.add_sub_cancel_left]
theorem block_setat (β : BlockS) (q : Nat) (v : Value) : (blockC β).set (4160 + q) v = farr 32 (fun j => chunkC (β.ch j)) ++ [Value.int .i64 β.reads, .bool β.failed, .int .i64 β.before, .bool β.atErase].set q v := by
  unfold blockC; rw [List.set_append_right _ _ (by rw [chunks_len]; omega), chunks_len, Nat.add_sub_cancel_left]

/-! ## loads and stores -/
section
variable {m : Mem} {c : Nat} {σ : ChipS} (h : m[c]? = some (.live (chipC σ)))
include h
theorem chip_ldOff : ldBool m ⟨c, 49968, none⟩ = some σ.off := ldBool_of h (chip_off σ)
theorem chip_ldCut : ldBool m ⟨c, 49969, none⟩ = some σ.cut := ldBool_of h (chip_cut σ)
theorem chip_ldBudget : ldInt .i64 m ⟨c, 49970, none⟩ = some σ.budget := ldInt_of h (chip_budget σ)
theorem chip_ldSteps : ldInt .i64 m ⟨c, 49971, none⟩ = some σ.steps := ldInt_of h (chip_steps σ)
theorem chip_stOff (v : Bool) : st m ⟨c, 49968, none⟩ (.bool v) = some (wr m c (chipC { σ with off := v })) := by rw [st_wr h (by rw [chipC_len]; omega), chip_setoff]
theorem chip_stCut (v : Bool) : st m ⟨c, 49969, none⟩ (.bool v) = some (wr m c (chipC { σ with cut := v })) := by rw [st_wr h (by rw [chipC_len]; omega), chip_setcut]
theorem chip_stBudget (v : Int) : st m ⟨c, 49970, none⟩ (.int .i64 v) = some (wr m c (chipC { σ with budget := v })) := by rw [st_wr h (by rw [chipC_len]; omega), chip_setbudget]
theorem chip_stSteps (v : Int) : st m ⟨c, 49971, none⟩ (.int .i64 v) = some (wr m c (chipC { σ with steps := v })) := by rw [st_wr h (by rw [chipC_len]; omega), chip_setsteps]
section
variable {x : Int} (h0 : 0 ≤ x) (h1 : x < 12)
include h0 h1
theorem chip_ldReads : ldInt .i64 m ⟨c, x.toNat * 4164 + 4160, none⟩ = some (σ.b x).reads := ldInt_of h (by rw [chip_bcell h0 h1 (by omega), block_at _ 0]; rfl)
theorem chip_ldFailed : ldBool m ⟨c, x.toNat * 4164 + 4161, none⟩ = some (σ.b x).failed := ldBool_of h (by rw [chip_bcell h0 h1 (by omega), block_at _ 1]; rfl)
theorem chip_ldBefore : ldInt .i64 m ⟨c, x.toNat * 4164 + 4162, none⟩ = some (σ.b x).before := ldInt_of h (by rw [chip_bcell h0 h1 (by omega), block_at _ 2]; rfl)
theorem chip_ldAtErase : ldBool m ⟨c, x.toNat * 4164 + 4163, none⟩ = some (σ.b x).atErase := ldBool_of h (by rw [chip_bcell h0 h1 (by omega), block_at _ 3]; rfl)
theorem chip_stReads (v : Int) : st m ⟨c, x.toNat * 4164 + 4160, none⟩ (.int .i64 v) = some (wr m c (chipC (σ.updB x { σ.b x with reads := v }))) := by
  rw [st_wr h (by rw [chipC_len]; omega), chip_bset (β := { σ.b x with reads := v }) h0 h1 (by omega) (by rw [block_setat _ 0]; simp [blockC])]
theorem chip_stFailed (v : Bool) : st m ⟨c, x.toNat * 4164 + 4161, none⟩ (.bool v) = some (wr m c (chipC (σ.updB x { σ.b x with failed := v }))) := by
  rw [st_wr h (by rw [chipC_len]; omega), chip_bset (β := { σ.b x with failed := v }) h0 h1 (by omega) (by rw [block_setat _ 1]; simp [blockC])]
theorem chip_stBefore (v : Int) : st m ⟨c, x.toNat * 4164 + 4162, none⟩ (.int .i64 v) = some (wr m c (chipC (σ.updB x { σ.b x with before := v }))) := by
  rw [st_wr h (by rw [chipC_len]; omega), chip_bset (β := { σ.b x with before := v }) h0 h1 (by omega) (by rw [block_setat _ 2]; simp [blockC])]
theorem chip_stAtErase (v : Bool) : st m ⟨c, x.toNat * 4164 + 4163, none⟩ (.bool v) = some (wr m c (chipC (σ.updB x { σ.b x with atErase := v }))) := by
  rw [st_wr h (by rw [chipC_len]; omega), chip_bset (β := { σ.b x with atErase := v }) h0 h1 (by omega) (by rw [block_setat _ 3]; simp [blockC])]
end
section
variable {p k : Int} (hp : isAt p k)
include hp
omit h in
theorem chA_lt : chA p k + 130 ≤ 49968 := by
  obtain ⟨h0, h1, h2, h3⟩ := hp
  unfold chA; omega
theorem chip_ldNow {i : Int} (h0 : 0 ≤ i) (h1 : i < 64) : ldInt .u8 m ⟨c, chA p k + i.toNat, none⟩ = some ((σ.at_ p k).now i) := ldInt_of h (by
  rw [chip_cell hp (by omega)]; unfold chunkC; rw [List.getElem?_append_left (by simp; omega)]; exact arr_getI h0 (by omega))
theorem chip_ldTru {i : Int} (h0 : 0 ≤ i) (h1 : i < 64) : ldInt .u8 m ⟨c, chA p k + 64 + i.toNat, none⟩ = some ((σ.at_ p k).tru i) := ldInt_of h (by
  rw [Nat.add_assoc, chip_cell hp (by omega)]; unfold chunkC
  rw [List.getElem?_append_right (by simp), arr_length, Nat.add_sub_cancel_left, List.getElem?_append_left (by simp; omega)]; exact arr_getI h0 (by omega))
theorem chip_ldIs : ldBool m ⟨c, chA p k + 128, none⟩ = some (σ.at_ p k).is := ldBool_of h (by
  rw [chip_cell hp (by omega)]; unfold chunkC; rw [List.getElem?_append_right (by simp), List.getElem?_append_right (by simp)]; simp)
theorem chip_ldWorst : ldInt .i64 m ⟨c, chA p k + 129, none⟩ = some (σ.at_ p k).worst := ldInt_of h (by
  rw [chip_cell hp (by omega)]; unfold chunkC; rw [List.getElem?_append_right (by simp), List.getElem?_append_right (by simp)]; simp)
theorem chip_stNow {i : Int} (h0 : 0 ≤ i) (h1 : i < 64) (v : Int) : st m ⟨c, chA p k + i.toNat, none⟩ (.int .u8 v) = some (wr m c (chipC (σ.put p k { σ.at_ p k with now := upd (σ.at_ p k).now i v }))) := by
  have := chA_lt hp
  rw [st_wr h (by rw [chipC_len]; omega), chip_set hp (by omega)]
  unfold chunkC; rw [List.set_append_left _ _ (by simp; omega), arr_set h0]
theorem chip_stIs (v : Bool) : st m ⟨c, chA p k + 128, none⟩ (.bool v) = some (wr m c (chipC (σ.put p k { σ.at_ p k with is := v }))) := by
  have := chA_lt hp
  rw [st_wr h (by rw [chipC_len]; omega), chip_set hp (by omega)]
  unfold chunkC; rw [List.set_append_right _ _ (by simp), List.set_append_right _ _ (by simp)]; simp
theorem chip_stWorst (v : Int) : st m ⟨c, chA p k + 129, none⟩ (.int .i64 v) = some (wr m c (chipC (σ.put p k { σ.at_ p k with worst := v }))) := by
  have := chA_lt hp
  rw [st_wr h (by rw [chipC_len]; omega), chip_set hp (by omega)]
  unfold chunkC; rw [List.set_append_right _ _ (by simp), List.set_append_right _ _ (by simp)]; simp
theorem chip_cellsNow : ldCells m ⟨c, chA p k, none⟩ 64 = some (arr .u8 64 (σ.at_ p k).now) := by
  have := chA_lt hp
  have e := chip_sub (σ := σ) hp (o := 0) (l := 64) (by omega)
  rw [Nat.add_zero, List.drop_zero] at e
  rw [ldCells_of h (by rw [chipC_len]; omega), e]
  unfold chunkC; exact congrArg some arr_take
theorem chip_cellsTru : ldCells m ⟨c, chA p k + 64, none⟩ 64 = some (arr .u8 64 (σ.at_ p k).tru) := by
  have := chA_lt hp
  rw [ldCells_of h (by rw [chipC_len]; omega), chip_sub hp (by omega)]
  unfold chunkC; rw [List.drop_left' (by simp)]; exact congrArg some arr_take
theorem chip_stCellsNow (f : Int → Int) : stCells m ⟨c, chA p k, none⟩ (arr .u8 64 f) = some (wr m c (chipC (σ.put p k { σ.at_ p k with now := f }))) := by
  have := chA_lt hp
  rw [stCells_wr h (by rw [chipC_len, arr_length]; omega)]
  have e := chip_put (σ := σ) hp (o := 0) (vs := arr .u8 64 f) (by simp) (c := { σ.at_ p k with now := f }) (by
    unfold chunkC; rw [List.take_zero, List.nil_append, Nat.zero_add, arr_length, List.drop_left' (by simp)])
  rw [Nat.add_zero] at e
  rw [e]
theorem chip_stCellsTru (f : Int → Int) : stCells m ⟨c, chA p k + 64, none⟩ (arr .u8 64 f) = some (wr m c (chipC (σ.put p k { σ.at_ p k with tru := f }))) := by
  have := chA_lt hp
  rw [stCells_wr h (by rw [chipC_len, arr_length]; omega)]
  rw [chip_put (σ := σ) hp (o := 64) (vs := arr .u8 64 f) (by simp) (c := { σ.at_ p k with tru := f }) (by
    unfold chunkC; rw [List.take_left' (by simp), arr_length, List.append_assoc]
    congr 2)]
end
end
end Go.Proofs.Ytchonnaoojpdoaa

/- What a chip's functions do. -/
set_option linter.unusedVariables false
set_option linter.unusedSectionVars false
set_option linter.unusedSimpArgs false
namespace Go.Proofs.Ytchonnaoojpdoaa
open Go.Mx

instance (p k : Int) : Decidable (isAt p k) := by unfold isAt; infer_instance
theorem updB_self (σ : ChipS) (x : Int) : σ.updB x (σ.b x) = σ := by cases σ; simp [ChipS.updB, upd_self]
theorem updB_updB (σ : ChipS) (x : Int) (β γ : BlockS) : (σ.updB x β).updB x γ = σ.updB x γ := by simp [ChipS.updB, upd_upd]
theorem updB_b (σ : ChipS) (x : Int) (β : BlockS) : (σ.updB x β).b x = β := by simp [ChipS.updB]
theorem put_at (σ : ChipS) (p k : Int) (c : ChunkS) : (σ.put p k c).at_ p k = c := by simp [ChipS.put, ChipS.at_, ChipS.updB, BlockS.updC]
theorem put_put (σ : ChipS) (p k : Int) (c d : ChunkS) : (σ.put p k c).put p k d = σ.put p k d := by simp [ChipS.put, ChipS.updB, BlockS.updC, upd_upd]

/-- in how many of the first n places two rows differ -/
def cntNe (f g : Int → Int) : Nat → Int
  | 0 => 0
  | n + 1 => cntNe f g n + if f n ≠ g n then 1 else 0
theorem cntNe_succ (f g : Int → Int) (n : Nat) : cntNe f g (n + 1) = cntNe f g n + if f n ≠ g n then 1 else 0 := rfl
theorem cntNe_le (f g : Int → Int) (n : Nat) : 0 ≤ cntNe f g n ∧ cntNe f g n ≤ n := by
  induction n with
  | zero => simp [cntNe]
  | succ n ih => rw [cntNe_succ]; split <;> omega
def ChunkS.damage (c : ChunkS) : Int := cntNe c.now c.tru 64

def ChipS.step (σ : ChipS) : Int × ChipS :=
  if σ.cut = true then (if σ.budget = 0 then (7, { σ with off := true }) else (0, { σ with budget := σ.budget - 1, steps := σ.steps + 1 })) else (0, { σ with steps := σ.steps + 1 })
/-- a write wears what waits for it -/
def BlockS.worn (β : BlockS) : BlockS := if β.before > 0 then { β with before := β.before - 1, failed := β.failed || β.before - 1 == 0 } else β
def ChipS.write (σ : ChipS) (p k : Int) (n : Nat) (f : Int → Int) : Int × ChipS :=
  if ¬ isAt p k then (1, σ) else if n ≠ 64 then (1, σ) else if σ.off = true then (7, σ) else if (σ.at_ p k).is = true then (9, σ) else
  if σ.step.1 ≠ 0 then σ.step else
  if (σ.step.2.b (p / 8)).worn.failed = true then (8, σ.step.2.updB (p / 8) (σ.step.2.b (p / 8)).worn) else (0, (σ.step.2.updB (p / 8) (σ.step.2.b (p / 8)).worn).put p k ⟨f, f, true, 0⟩)

section
variable (k : Nat) {m : Mem} {c : Nat} {σ : ChipS} (h : m[c]? = some (.live (chipC σ)))

theorem nand_at_is (p q : Int) : nand_Chip_at k (some ⟨c, 0, none⟩) p q m = some (if isAt p q then (some ⟨c, chA p q, none⟩, .nilIface, m) else (none, errC 1, m)) := by
  unfold nand_Chip_at
  by_cases hp : isAt p q
  · have ⟨h0, h1, h2, h3⟩ := hp
    rw [if_pos hp]
    simp (disch := omega) only [Option.bind_some, Option.map_some, cond_true, cond_false, wrap_i64, tmod_pos, tdiv_pos, inRange_yes, inUpto_yes, isZero_no, decide_eq_true, decide_eq_false, Bool.not_true, Bool.not_false, Int.toNat_natCast, Nat.mul_one, beqI_yes, beqI_no, bneI_yes, bneI_no, isNil_nil, isNil_iface, wr_wr, Option.isNone_none, Option.isNone_some, plus, Nat.zero_add, Nat.add_zero]
    rfl
  · rw [if_neg hp]
    unfold isAt at hp
    simp only [cond_eq_ite, decide_eq_true_eq, errC]
    grind
include h
theorem nand_step_is (hs : 0 ≤ σ.steps ∧ σ.steps < 4611686018427387904) (hb : 0 ≤ σ.budget ∧ σ.budget < 9223372036854775808) : nand_Chip_step k (some ⟨c, 0, none⟩) m = some (errC σ.step.1, wr m c (chipC σ.step.2)) := by
  unfold nand_Chip_step ChipS.step
  cases hc : σ.cut with
  | false =>
    simp (disch := omega) only [Option.bind_some, Option.map_some, cond_true, cond_false, wrap_i64, tmod_pos, tdiv_pos, inRange_yes, inUpto_yes, isZero_no, decide_eq_true, decide_eq_false, Bool.not_true, Bool.not_false, Int.toNat_natCast, Nat.mul_one, beqI_yes, beqI_no, bneI_yes, bneI_no, isNil_nil, isNil_iface, wr_wr, Option.isNone_none, Option.isNone_some, plus, Nat.zero_add, Nat.add_zero, chip_ldCut h, hc, nand_Chip_step_j1, chip_ldSteps h, chip_stSteps h]
    simp [errC, hc]
  | true =>
    by_cases h0 : σ.budget = 0
    · simp (disch := omega) only [Option.bind_some, Option.map_some, cond_true, cond_false, wrap_i64, tmod_pos, tdiv_pos, inRange_yes, inUpto_yes, isZero_no, decide_eq_true, decide_eq_false, Bool.not_true, Bool.not_false, Int.toNat_natCast, Nat.mul_one, beqI_yes, beqI_no, bneI_yes, bneI_no, isNil_nil, isNil_iface, wr_wr, Option.isNone_none, Option.isNone_some, plus, Nat.zero_add, Nat.add_zero, chip_ldCut h, hc, chip_ldBudget h, chip_stOff h]
      simp [errC, hc, h0]
    · simp (disch := omega) only [Option.bind_some, Option.map_some, cond_true, cond_false, wrap_i64, tmod_pos, tdiv_pos, inRange_yes, inUpto_yes, isZero_no, decide_eq_true, decide_eq_false, Bool.not_true, Bool.not_false, Int.toNat_natCast, Nat.mul_one, beqI_yes, beqI_no, bneI_yes, bneI_no, isNil_nil, isNil_iface, wr_wr, Option.isNone_none, Option.isNone_some, plus, Nat.zero_add, Nat.add_zero, chip_ldCut h, hc, chip_ldBudget h, chip_stBudget h, nand_Chip_step_j1, chip_ldSteps (wr_get h), chip_stSteps (wr_get h)]
      simp [errC, hc, h0]
theorem nand_damage_is (hk : 64 < k) {p q : Int} (hp : isAt p q) : nand_chunk_damage k (some ⟨c, chA p q, none⟩) m = some ((σ.at_ p q).damage, m) := by
  have key : ∀ (d n i : Nat), i + d = 64 → d < n → nand_chunk_damage_l0 k (fun y3 m6 => some (y3, m6)) n (some ⟨c, chA p q, none⟩) (cntNe (σ.at_ p q).now (σ.at_ p q).tru i) (arr .u8 64 (σ.at_ p q).now) i m = some ((σ.at_ p q).damage, m) := by
    intro d
    induction d with
    | zero =>
      intro n i h1 h2
      cases n with
      | zero => omega
      | succ n =>
        have : i = 64 := by omega
        subst this
        unfold nand_chunk_damage_l0 nand_chunk_damage_l0_b
        rfl
    | succ d ih =>
      intro n i h1 h2
      cases n with
      | zero => omega
      | succ n =>
        have ih := ih n (i + 1) (by omega) (by omega)
        have hc := cntNe_le (σ.at_ p q).now (σ.at_ p q).tru i
        have e1 : cInt .u8 (arr .u8 64 (σ.at_ p q).now) i = some ((σ.at_ p q).now i) := by simp [cInt, arr_get (show i < 64 by omega)]
        have e2 := chip_ldTru h hp (i := (i : Int)) (by omega) (by omega)
        rw [Int.toNat_natCast] at e2
        unfold nand_chunk_damage_l0 nand_chunk_damage_l0_b
        simp (disch := omega) only [Option.bind_some, Option.map_some, cond_true, cond_false, wrap_i64, tmod_pos, tdiv_pos, inRange_yes, inUpto_yes, isZero_no, decide_eq_true, decide_eq_false, Bool.not_true, Bool.not_false, Int.toNat_natCast, Nat.mul_one, beqI_yes, beqI_no, bneI_yes, bneI_no, isNil_nil, isNil_iface, wr_wr, Option.isNone_none, Option.isNone_some, plus, Nat.zero_add, Nat.add_zero, e1, e2, nand_chunk_damage_j1, cond_eq_ite, bne_iff_ne]
        rw [cntNe_succ] at ih
        grind
  unfold nand_chunk_damage
  simp (disch := omega) only [Option.bind_some, Option.map_some, cond_true, cond_false, wrap_i64, tmod_pos, tdiv_pos, inRange_yes, inUpto_yes, isZero_no, decide_eq_true, decide_eq_false, Bool.not_true, Bool.not_false, Int.toNat_natCast, Nat.mul_one, beqI_yes, beqI_no, bneI_yes, bneI_no, isNil_nil, isNil_iface, wr_wr, Option.isNone_none, Option.isNone_some, plus, Nat.zero_add, Nat.add_zero, chip_cellsNow h hp]
  exact key 64 k 0 rfl hk
theorem nand_Damage_is (hk : 64 < k) (p q : Int) : nand_Chip_Damage k (some ⟨c, 0, none⟩) p q m = some (if isAt p q then ((σ.at_ p q).damage, (σ.at_ p q).worst, .nilIface, m) else (0, 0, errC 1, m)) := by
  unfold nand_Chip_Damage
  rw [nand_at_is]
  by_cases hp : isAt p q
  · simp (disch := omega) only [Option.bind_some, Option.map_some, cond_true, cond_false, wrap_i64, tmod_pos, tdiv_pos, inRange_yes, inUpto_yes, isZero_no, decide_eq_true, decide_eq_false, Bool.not_true, Bool.not_false, Int.toNat_natCast, Nat.mul_one, beqI_yes, beqI_no, bneI_yes, bneI_no, isNil_nil, isNil_iface, wr_wr, Option.isNone_none, Option.isNone_some, plus, Nat.zero_add, Nat.add_zero, if_pos hp, nand_damage_is k h hk hp, chip_ldWorst h hp]
  · simp (disch := omega) only [Option.bind_some, Option.map_some, cond_true, cond_false, wrap_i64, tmod_pos, tdiv_pos, inRange_yes, inUpto_yes, isZero_no, decide_eq_true, decide_eq_false, Bool.not_true, Bool.not_false, Int.toNat_natCast, Nat.mul_one, beqI_yes, beqI_no, bneI_yes, bneI_no, isNil_nil, isNil_iface, wr_wr, Option.isNone_none, Option.isNone_some, plus, Nat.zero_add, Nat.add_zero, if_neg hp, isNil_errC]
theorem nand_Power_is : nand_Chip_Power k (some ⟨c, 0, none⟩) m = some (wr m c (chipC { σ with off := false, cut := false, budget := 0 })) := by
  unfold nand_Chip_Power
  simp (disch := omega) only [Option.bind_some, Option.map_some, cond_true, cond_false, wrap_i64, tmod_pos, tdiv_pos, inRange_yes, inUpto_yes, isZero_no, decide_eq_true, decide_eq_false, Bool.not_true, Bool.not_false, Int.toNat_natCast, Nat.mul_one, beqI_yes, beqI_no, bneI_yes, bneI_no, isNil_nil, isNil_iface, wr_wr, Option.isNone_none, Option.isNone_some, plus, Nat.zero_add, Nat.add_zero, chip_stOff h, chip_stCut (wr_get h), chip_stBudget (wr_get h)]
theorem nand_Cut_is (n : Int) : nand_Chip_Cut k (some ⟨c, 0, none⟩) n m = some (if n < 0 then (errC 1, m) else (.nilIface, wr m c (chipC (if σ.off = true then σ else { σ with cut := true, budget := n })))) := by
  unfold nand_Chip_Cut nand_Chip_Cut_j1
  by_cases h0 : n < 0
  · simp (disch := omega) only [Option.bind_some, Option.map_some, cond_true, cond_false, wrap_i64, tmod_pos, tdiv_pos, inRange_yes, inUpto_yes, isZero_no, decide_eq_true, decide_eq_false, Bool.not_true, Bool.not_false, Int.toNat_natCast, Nat.mul_one, beqI_yes, beqI_no, bneI_yes, bneI_no, isNil_nil, isNil_iface, wr_wr, Option.isNone_none, Option.isNone_some, plus, Nat.zero_add, Nat.add_zero, if_pos h0]; rfl
  · rw [if_neg h0]
    cases ho : σ.off with
    | true => simp (disch := omega) only [Option.bind_some, Option.map_some, cond_true, cond_false, wrap_i64, tmod_pos, tdiv_pos, inRange_yes, inUpto_yes, isZero_no, decide_eq_true, decide_eq_false, Bool.not_true, Bool.not_false, Int.toNat_natCast, Nat.mul_one, beqI_yes, beqI_no, bneI_yes, bneI_no, isNil_nil, isNil_iface, wr_wr, Option.isNone_none, Option.isNone_some, plus, Nat.zero_add, Nat.add_zero, chip_ldOff h, ho]; simp [wr_same h]
    | false => simp (disch := omega) only [Option.bind_some, Option.map_some, cond_true, cond_false, wrap_i64, tmod_pos, tdiv_pos, inRange_yes, inUpto_yes, isZero_no, decide_eq_true, decide_eq_false, Bool.not_true, Bool.not_false, Int.toNat_natCast, Nat.mul_one, beqI_yes, beqI_no, bneI_yes, bneI_no, isNil_nil, isNil_iface, wr_wr, Option.isNone_none, Option.isNone_some, plus, Nat.zero_add, Nat.add_zero, chip_ldOff h, ho, chip_stCut h, chip_stBudget (wr_get h)]; simp
end
end Go.Proofs.Ytchonnaoojpdoaa

/- What a chip's functions do: those that make something. -/
set_option linter.unusedVariables false
set_option linter.unusedSectionVars false
set_option linter.unusedSimpArgs false
namespace Go.Proofs.Ytchonnaoojpdoaa
open Go.Mx

def blank : ChunkS := ⟨fun _ => 255, fun _ => 255, false, 0⟩
def zeroCh : ChunkS := ⟨fun _ => 0, fun _ => 0, false, 0⟩
def BlockS.clear (β : BlockS) : BlockS := { β with ch := fun _ => blank, reads := 0 }
theorem blockC_congr {β : BlockS} {f : Int → ChunkS} (h : ∀ j : Int, 0 ≤ j → j < 32 → β.ch j = f j) : blockC β = blockC { β with ch := f } := by
  unfold blockC
  rw [farr_congr (g := fun j => chunkC (f j)) fun j h1 h2 => by simp only [h j h1 (by omega)]]
theorem chipC_congr {σ : ChipS} {f : Int → BlockS} (h : ∀ x : Int, 0 ≤ x → x < 12 → blockC (σ.b x) = blockC (f x)) : chipC σ = chipC { σ with b := f } := by
  unfold chipC
  rw [farr_congr (g := fun j => blockC (f j)) fun j h1 h2 => by simp only [h j h1 (by omega)]]

/-! a chunk by itself -/
section
variable {m : Mem} {w : Nat} {s : ChunkS} (h : m[w]? = some (.live (chunkC s)))
include h
theorem ch_stNow {i : Int} (h0 : 0 ≤ i) (h1 : i < 64) (v : Int) : st m ⟨w, i.toNat, none⟩ (.int .u8 v) = some (wr m w (chunkC { s with now := upd s.now i v })) := by
  rw [st_wr h (by rw [chunkC_len]; omega)]
  unfold chunkC; rw [List.set_append_left _ _ (by simp; omega), arr_set h0]
theorem ch_now : ldCells m ⟨w, 0, none⟩ 64 = some (arr .u8 64 s.now) := by
  rw [ldCells_of h (by rw [chunkC_len]; omega)]
  unfold chunkC; rw [List.drop_zero]; exact congrArg some arr_take
theorem ch_stTru (f : Int → Int) : stCells m ⟨w, 64, none⟩ (arr .u8 64 f) = some (wr m w (chunkC { s with tru := f })) := by
  rw [stCells_wr h (by rw [chunkC_len, arr_length]; omega)]
  unfold chunkC; rw [List.take_left' (by simp), arr_length, List.append_assoc]
  rw [show 64 + 64 = (arr .u8 64 s.now).length + 64 by simp, List.drop_length_add_append, List.drop_left' (by simp)]
theorem ch_all : ldCells m ⟨w, 0, none⟩ 130 = some (chunkC s) := by
  rw [ldCells_of h (by rw [chunkC_len]; omega), List.drop_zero, List.take_of_length_le (by rw [chunkC_len]; omega)]
end

theorem nand_clear_ok (k : Nat) (hk : 100 < k) {m : Mem} {c : Nat} {σ : ChipS} (h : m[c]? = some (.live (chipC σ))) {x : Int} (h0 : 0 ≤ x) (h1 : x < 12) :
    ∃ g, nand_block_clear k (some ⟨c, x.toNat * 4164, none⟩) m = some (wr m c (chipC (σ.updB x (σ.b x).clear)) ++ [g]) := by
  have key : Ok (nand_block_clear k (some ⟨c, x.toNat * 4164, none⟩) m) fun m' => ∃ g, m' = wr m c (chipC (σ.updB x (σ.b x).clear)) ++ [g] := by
    unfold nand_block_clear
    have hcl := get_lt h
    have e0 : (repl 64 [Value.int .u8 0] ++ repl 64 [Value.int .u8 0] ++ [Value.bool false] ++ [Value.int .i64 0]) = chunkC zeroCh := by
      rw [repl_int]; simp [chunkC, zeroCh]
    simp only [e0]
    refine nand_block_clear_l0_rule k _ (fun d x0 x2 x6 m' => some ⟨c, x.toNat * 4164, none⟩ = x0 ∧ ⟨m.length, 0, none⟩ = x2 ∧ 0 ≤ x6 ∧ x6 + d = 64 ∧ ∃ f : Int → Int, (∀ i, 0 ≤ i → i < x6 → f i = 255) ∧ m' = m ++ [.live (chunkC ⟨f, fun _ => 0, false, 0⟩)]) ?_ k 64 _ _ 0 _ (by omega)
      ⟨rfl, rfl, by omega, by omega, _, fun i h2 h3 => by omega, rfl⟩
    rintro d nx _ _ i _ ⟨rfl, rfl, hi, hd, f, hf, rfl⟩ hnx
    have hw := get_last (m := m) (o := .live (chunkC ⟨f, fun _ => 0, false, 0⟩)) rfl
    unfold nand_block_clear_l0_b
    by_cases h2 : i < 64
    · simp (disch := omega) only [Option.bind_some, Option.map_some, cond_true, cond_false, wrap_i64, tmod_pos, tdiv_pos, inRange_yes, inUpto_yes, isZero_no, decide_eq_true, decide_eq_false, Bool.not_true, Bool.not_false, Int.toNat_natCast, Nat.mul_one, beqI_yes, beqI_no, bneI_yes, bneI_no, isNil_nil, isNil_iface, wr_wr, Option.isNone_none, Option.isNone_some, plus, Nat.zero_add, Nat.add_zero, ch_stNow hw hi h2, wr_last (m := m) rfl]
      exact hnx (d - 1) _ _ _ _ (by omega) ⟨rfl, rfl, by omega, by omega, upd f i 255, fun j h3 h4 => by unfold upd; have := hf j h3; grind, rfl⟩
    · clear hnx
      have hi2 : i = 64 := by omega
      subst hi2
      have hw2 := get_last (m := m) (o := .live (chunkC ⟨f, f, false, 0⟩)) rfl
      have hl : Nat.beq (arr .u8 64 f).length 64 = true := by rw [arr_length]; rfl
      simp (disch := omega) only [Option.bind_some, Option.map_some, cond_true, cond_false, wrap_i64, tmod_pos, tdiv_pos, inRange_yes, inUpto_yes, isZero_no, decide_eq_true, decide_eq_false, Bool.not_true, Bool.not_false, Int.toNat_natCast, Nat.mul_one, beqI_yes, beqI_no, bneI_yes, bneI_no, isNil_nil, isNil_iface, wr_wr, Option.isNone_none, Option.isNone_some, plus, Nat.zero_add, Nat.add_zero, ch_now hw, hl, ch_stTru hw, wr_last (m := m) rfl]
      -- the pages
      have hb : (⟨f, f, false, 0⟩ : ChunkS).now = f := rfl
      have hC : chunkC ⟨f, f, false, 0⟩ = chunkC blank := by
        unfold chunkC blank
        rw [arr_congr (f := f) (g := fun _ => 255) fun i h3 h4 => hf i h3 (by omega)]
      rw [hC] at hw2 ⊢
      clear hC hb hf hw
      refine nand_block_clear_l2_rule k _ (fun d x0 x2 x16 m' => some ⟨c, x.toNat * 4164, none⟩ = x0 ∧ ⟨m.length, 0, none⟩ = x2 ∧ 0 ≤ x16 ∧ x16 + d = 8 ∧ ∃ g : Int → ChunkS, (∀ j, 0 ≤ j → j < x16 * 4 → g j = blank) ∧ m' = wr m c (chipC (σ.updB x { σ.b x with ch := g })) ++ [.live (chunkC blank)]) ?_ k 8 _ _ 0 _ (by omega)
        ⟨rfl, rfl, by omega, by omega, (σ.b x).ch, fun j h2 h3 => by omega, by rw [show ({ σ.b x with ch := (σ.b x).ch } : BlockS) = σ.b x from rfl, updB_self, wr_same h]⟩
      rintro d nx _ _ i _ ⟨rfl, rfl, hi, hd, g, hg, rfl⟩ hnx
      unfold nand_block_clear_l2_b
      by_cases h3 : i < 8
      · simp (disch := omega) only [Option.bind_some, Option.map_some, cond_true, cond_false, wrap_i64, tmod_pos, tdiv_pos, inRange_yes, inUpto_yes, isZero_no, decide_eq_true, decide_eq_false, Bool.not_true, Bool.not_false, Int.toNat_natCast, Nat.mul_one, beqI_yes, beqI_no, bneI_yes, bneI_no, isNil_nil, isNil_iface, wr_wr, Option.isNone_none, Option.isNone_some, plus, Nat.zero_add, Nat.add_zero]
        refine nand_block_clear_l4_rule k _ (fun d' x0 x2 x4 x16 x19 m' => some ⟨c, x.toNat * 4164, none⟩ = x0 ∧ ⟨m.length, 0, none⟩ = x2 ∧ i = x4 ∧ i = x16 ∧ 0 ≤ x19 ∧ x19 + d' = 4 ∧ ∃ g : Int → ChunkS, (∀ j, 0 ≤ j → j < i * 4 + x19 → g j = blank) ∧ m' = wr m c (chipC (σ.updB x { σ.b x with ch := g })) ++ [.live (chunkC blank)]) ?_ k 4 _ _ _ _ 0 _ (by omega)
          ⟨rfl, rfl, rfl, rfl, by omega, by omega, g, by simpa using hg, rfl⟩
        rintro d' nx' _ _ _ _ q _ ⟨rfl, rfl, rfl, rfl, hq, hd', g, hg, rfl⟩ hnx'
        unfold nand_block_clear_l4_b
        by_cases h4 : q < 4
        · have hlen : (wr m c (chipC (σ.updB x { σ.b x with ch := g }))).length = m.length := wr_len
          have hw3 := get_last (o := .live (chunkC blank)) hlen
          have hc3 : (wr m c (chipC (σ.updB x { σ.b x with ch := g })) ++ [MObj.live (chunkC blank)])[c]? = some (.live (chipC (σ.updB x { σ.b x with ch := g }))) := get_grow (wr_get h)
          have hl2 : Nat.beq (chunkC blank).length 130 = true := by rw [chunkC_len]; rfl
          have e1 : stCells (wr m c (chipC (σ.updB x { σ.b x with ch := g })) ++ [MObj.live (chunkC blank)]) ⟨c, x.toNat * 4164 + i.toNat * 520 + q.toNat * 130, none⟩ (chunkC blank) = some (wr m c (chipC (σ.updB x { σ.b x with ch := upd g (i * 4 + q) blank })) ++ [.live (chunkC blank)]) := by
            rw [stCells_wr hc3 (by rw [chipC_len, chunkC_len]; omega), wr_app (by rw [hlen]; exact hcl), wr_wr]
            have e2 := block_put (β := { σ.b x with ch := g }) (j := (i * 4 + q).toNat) (by omega) (o := 0) (vs := chunkC blank) (by rw [chunkC_len]; omega) (c := blank) (by
              rw [List.take_zero, List.nil_append, List.drop_of_length_le (by rw [chunkC_len, chunkC_len]; omega), List.append_nil])
            rw [show (((i * 4 + q).toNat : Nat) : Int) = i * 4 + q by omega, Nat.add_zero] at e2
            have e3 := chip_bput (σ := σ.updB x { σ.b x with ch := g }) h0 h1 (o := (i * 4 + q).toNat * 130) (vs := chunkC blank) (by rw [chunkC_len]; omega) (by rw [updB_b]; exact e2)
            rw [updB_updB] at e3
            rw [show x.toNat * 4164 + i.toNat * 520 + q.toNat * 130 = x.toNat * 4164 + (i * 4 + q).toNat * 130 by omega, e3]
            rfl
          simp (disch := omega) only [Option.bind_some, Option.map_some, cond_true, cond_false, wrap_i64, tmod_pos, tdiv_pos, inRange_yes, inUpto_yes, isZero_no, decide_eq_true, decide_eq_false, Bool.not_true, Bool.not_false, Int.toNat_natCast, Nat.mul_one, beqI_yes, beqI_no, bneI_yes, bneI_no, isNil_nil, isNil_iface, wr_wr, Option.isNone_none, Option.isNone_some, plus, Nat.zero_add, Nat.add_zero, ch_all hw3, hl2, e1]
          exact hnx' (d' - 1) _ _ _ _ _ _ (by omega) ⟨rfl, rfl, rfl, rfl, by omega, by omega, _, fun j h5 h6 => by unfold upd; have := hg j h5; grind, rfl⟩
        · simp (disch := omega) only [Option.bind_some, Option.map_some, cond_true, cond_false, wrap_i64, tmod_pos, tdiv_pos, inRange_yes, inUpto_yes, isZero_no, decide_eq_true, decide_eq_false, Bool.not_true, Bool.not_false, Int.toNat_natCast, Nat.mul_one, beqI_yes, beqI_no, bneI_yes, bneI_no, isNil_nil, isNil_iface, wr_wr, Option.isNone_none, Option.isNone_some, plus, Nat.zero_add, Nat.add_zero]
          exact hnx (d - 1) _ _ _ _ (by omega) ⟨rfl, rfl, by omega, by omega, g, fun j h5 h6 => hg j h5 (by omega), rfl⟩
      · clear hnx
        have hlen : (wr m c (chipC (σ.updB x { σ.b x with ch := g }))).length = m.length := wr_len
        have hc3 : (wr m c (chipC (σ.updB x { σ.b x with ch := g })) ++ [MObj.live (chunkC blank)])[c]? = some (.live (chipC (σ.updB x { σ.b x with ch := g }))) := get_grow (wr_get h)
        have e1 := chip_stReads hc3 h0 h1 0
        rw [wr_app (by rw [hlen]; exact hcl), wr_wr, updB_updB, updB_b] at e1
        simp (disch := omega) only [Option.bind_some, Option.map_some, cond_true, cond_false, wrap_i64, tmod_pos, tdiv_pos, inRange_yes, inUpto_yes, isZero_no, decide_eq_true, decide_eq_false, Bool.not_true, Bool.not_false, Int.toNat_natCast, Nat.mul_one, beqI_yes, beqI_no, bneI_yes, bneI_no, isNil_nil, isNil_iface, wr_wr, Option.isNone_none, Option.isNone_some, plus, Nat.zero_add, Nat.add_zero, sync_atomic_Int64_Store, sync_atomic_StoreInt64, atStore, e1]
        refine .some ⟨.live (chunkC blank), ?_⟩
        congr 2
        refine (chipC_congr (f := (σ.updB x (σ.b x).clear).b) fun y h5 h6 => ?_).trans rfl
        unfold ChipS.updB upd
        by_cases h7 : y = x
        · simp only [h7, if_true]
          exact blockC_congr (f := fun _ => blank) fun j h8 h9 => hg j h8 (by omega)
        · simp only [h7, if_false]
  obtain ⟨m', h2, g, rfl⟩ := key
  exact ⟨g, h2⟩
end Go.Proofs.Ytchonnaoojpdoaa

/- What a chip's functions do: erase, write, and what was written. -/
set_option linter.unusedVariables false
set_option linter.unusedSectionVars false
set_option linter.unusedSimpArgs false
namespace Go.Proofs.Ytchonnaoojpdoaa
open Go.Mx

def ChipS.erase (σ : ChipS) (x : Int) : Int × ChipS :=
  if ¬ (0 ≤ x ∧ x < 12) then (1, σ) else if σ.off = true then (7, σ) else if σ.step.1 ≠ 0 then σ.step else
  if (σ.step.2.b x).failed || (σ.step.2.b x).atErase then (8, σ.step.2.updB x { σ.step.2.b x with failed := true }) else (0, σ.step.2.updB x ({ σ.step.2.b x with failed := false } : BlockS).clear)
theorem step_b (σ : ChipS) : σ.step.2.b = σ.b := by unfold ChipS.step; split <;> (try split) <;> rfl
theorem put_b (σ : ChipS) (x : Int) (β γ : BlockS) : ((σ.updB x β).updB x γ) = σ.updB x γ := updB_updB σ x β γ

section
variable (k : Nat) {m : Mem} {c : Nat} {σ : ChipS} (h : m[c]? = some (.live (chipC σ)))
include h
theorem nand_Truth_is (p q : Int) : nand_Chip_Truth k (some ⟨c, 0, none⟩) p q m = some (if isAt p q then (⟨some ⟨m.length, 0, some 1⟩, 64, 64⟩, (σ.at_ p q).is, .nilIface, m ++ [.live (arr .u8 64 (σ.at_ p q).tru)]) else (⟨none, 0, 0⟩, false, errC 1, m)) := by
  unfold nand_Chip_Truth
  rw [nand_at_is]
  by_cases hp : isAt p q
  · have e1 := rdSl_ld (n := 64) (z := 1) (chip_cellsTru h hp)
    have e2 := appM_first (z := 1) (y := 1) (m := m) (l := 64) (new := arr .u8 64 (σ.at_ p q).tru) (by omega) (by unfold most; omega) (by unfold most; omega)
    have e3 := chip_ldIs h hp
    have e4 := chip_ldIs (get_grow (g := [.live (arr .u8 64 (σ.at_ p q).tru)]) h) hp
    have e5 : sliceK.clear (some ⟨c, chA p q + 64, none⟩) true = some ⟨c, chA p q + 64, none⟩ := rfl
    simp (disch := omega) only [Option.bind_some, Option.map_some, cond_true, cond_false, wrap_i64, tmod_pos, tdiv_pos, inRange_yes, inUpto_yes, isZero_no, decide_eq_true, decide_eq_false, Bool.not_true, Bool.not_false, Int.toNat_natCast, Nat.mul_one, beqI_yes, beqI_no, bneI_yes, bneI_no, isNil_nil, isNil_iface, wr_wr, Option.isNone_none, Option.isNone_some, plus, Nat.zero_add, Nat.add_zero, if_pos hp, e5, e1, e2, e3, e4, beq_self_eq_true]
  · simp (disch := omega) only [Option.bind_some, Option.map_some, cond_true, cond_false, wrap_i64, tmod_pos, tdiv_pos, inRange_yes, inUpto_yes, isZero_no, decide_eq_true, decide_eq_false, Bool.not_true, Bool.not_false, Int.toNat_natCast, Nat.mul_one, beqI_yes, beqI_no, bneI_yes, bneI_no, isNil_nil, isNil_iface, wr_wr, Option.isNone_none, Option.isNone_some, plus, Nat.zero_add, Nat.add_zero, if_neg hp, isNil_errC]
omit h in
theorem write_j1 {m : Mem} {τ : ChipS} (h : m[c]? = some (.live (chipC τ))) {p q : Int} (hp : isAt p q) {a : Option Addr} {f : Int → Int} (hsrc : rdSl m a 64 1 = some (arr .u8 64 f)) (v : Value) (mm : Mem) :
    nand_Chip_Write_j1 k p a 64 (some ⟨c, chA p q, none⟩, v, mm) ⟨c, 0, none⟩ m = some (if (τ.b (p / 8)).failed = true then (errC 8, m) else (.nilIface, wr m c (chipC (τ.put p q ⟨f, f, true, 0⟩)))) := by
  have hp' := hp
  obtain ⟨h0, h1, h2, h3⟩ := hp'
  unfold nand_Chip_Write_j1
  have e0 := chip_ldFailed h (x := p / 8) (by omega) (by omega)
  cases hf : (τ.b (p / 8)).failed with
  | true =>
    rw [hf] at e0
    rw [if_pos rfl]
    simp (disch := omega) only [Option.bind_some, Option.map_some, cond_true, cond_false, wrap_i64, tmod_pos, tdiv_pos, inRange_yes, inUpto_yes, isZero_no, decide_eq_true, decide_eq_false, Bool.not_true, Bool.not_false, Int.toNat_natCast, Nat.mul_one, beqI_yes, beqI_no, bneI_yes, bneI_no, isNil_nil, isNil_iface, wr_wr, Option.isNone_none, Option.isNone_some, plus, Nat.zero_add, Nat.add_zero, e0]
    rfl
  | false =>
    rw [hf] at e0
    rw [if_neg (by simp)]
    have g1 := wr_get (cs := chipC (τ.put p q { τ.at_ p q with now := f })) h
    have e1 := chip_stCellsNow h hp f
    have e2 := chip_cellsNow g1 hp
    rw [put_at] at e2
    have e3 := chip_stCellsTru g1 hp f
    rw [put_at, put_put, wr_wr] at e3
    have g2 := wr_get (cs := chipC (τ.put p q { ({ τ.at_ p q with now := f } : ChunkS) with tru := f })) h
    have e4 := chip_stIs g2 hp true
    rw [put_at, put_put, wr_wr] at e4
    have g3 := wr_get (cs := chipC (τ.put p q { ({ ({ τ.at_ p q with now := f } : ChunkS) with tru := f } : ChunkS) with is := true })) h
    have e5 := chip_stWorst g3 hp 0
    rw [put_at, put_put, wr_wr] at e5
    have e6 : sliceK.clear (some ⟨c, chA p q, none⟩) true = some ⟨c, chA p q, none⟩ := rfl
    have e7 : ∀ l, oper.stSl m (some ⟨c, chA p q, none⟩) l = stCells m ⟨c, chA p q, none⟩ l := fun _ => rfl
    have e8 : Nat.beq (arr .u8 64 f).length 64 = true := by rw [arr_length]; rfl
    simp (disch := omega) only [Option.bind_some, Option.map_some, cond_true, cond_false, wrap_i64, tmod_pos, tdiv_pos, inRange_yes, inUpto_yes, isZero_no, decide_eq_true, decide_eq_false, Bool.not_true, Bool.not_false, Int.toNat_natCast, Nat.mul_one, beqI_yes, beqI_no, bneI_yes, bneI_no, isNil_nil, isNil_iface, wr_wr, Option.isNone_none, Option.isNone_some, plus, Nat.zero_add, Nat.add_zero, e0, Nat.min_self, hsrc, e6, e7, e1, e2, e8, e3, e4, e5]
theorem nand_Write_is (hs : 0 ≤ σ.steps ∧ σ.steps < 4611686018427387904) (hb : 0 ≤ σ.budget ∧ σ.budget < 9223372036854775808) (hw : ∀ x, 0 ≤ (σ.b x).before ∧ (σ.b x).before < 9223372036854775808) (p q : Int) {a : Option Addr} {n cc : Nat} {f : Int → Int}
    (hsrc : n = 64 → ∀ τ : ChipS, rdSl (wr m c (chipC τ)) a 64 1 = some (arr .u8 64 f)) :
    nand_Chip_Write k (some ⟨c, 0, none⟩) p q a n cc m = some (errC (σ.write p q n f).1, wr m c (chipC (σ.write p q n f).2)) := by
  unfold nand_Chip_Write
  rw [nand_at_is]
  unfold ChipS.write
  have e1n : decide ((1 : Int) = 0) = false := rfl
  by_cases hp : isAt p q
  rotate_left
  · rw [if_neg hp, if_pos hp]
    simp (disch := omega) only [Option.bind_some, Option.map_some, cond_true, cond_false, wrap_i64, tmod_pos, tdiv_pos, inRange_yes, inUpto_yes, isZero_no, decide_eq_true, decide_eq_false, Bool.not_true, Bool.not_false, Int.toNat_natCast, Nat.mul_one, beqI_yes, beqI_no, bneI_yes, bneI_no, isNil_nil, isNil_iface, wr_wr, Option.isNone_none, Option.isNone_some, plus, Nat.zero_add, Nat.add_zero, isNil_errC, e1n]
    rw [wr_same h]
  rw [if_pos hp, if_neg (not_not_intro hp)]
  by_cases hn : n = 64
  rotate_left
  · rw [if_pos hn]
    simp (disch := omega) only [Option.bind_some, Option.map_some, cond_true, cond_false, wrap_i64, tmod_pos, tdiv_pos, inRange_yes, inUpto_yes, isZero_no, decide_eq_true, decide_eq_false, Bool.not_true, Bool.not_false, Int.toNat_natCast, Nat.mul_one, beqI_yes, beqI_no, bneI_yes, bneI_no, isNil_nil, isNil_iface, wr_wr, Option.isNone_none, Option.isNone_some, plus, Nat.zero_add, Nat.add_zero]
    rw [wr_same h]; rfl
  subst hn
  rw [if_neg (by simp)]
  cases ho : σ.off with
  | true =>
    rw [if_pos rfl]
    simp (disch := omega) only [Option.bind_some, Option.map_some, cond_true, cond_false, wrap_i64, tmod_pos, tdiv_pos, inRange_yes, inUpto_yes, isZero_no, decide_eq_true, decide_eq_false, Bool.not_true, Bool.not_false, Int.toNat_natCast, Nat.mul_one, beqI_yes, beqI_no, bneI_yes, bneI_no, isNil_nil, isNil_iface, wr_wr, Option.isNone_none, Option.isNone_some, plus, Nat.zero_add, Nat.add_zero, chip_ldOff h, ho]
    rw [wr_same h]; rfl
  | false =>
  rw [if_neg (by simp)]
  cases hi : (σ.at_ p q).is with
  | true =>
    rw [if_pos rfl]
    simp (disch := omega) only [Option.bind_some, Option.map_some, cond_true, cond_false, wrap_i64, tmod_pos, tdiv_pos, inRange_yes, inUpto_yes, isZero_no, decide_eq_true, decide_eq_false, Bool.not_true, Bool.not_false, Int.toNat_natCast, Nat.mul_one, beqI_yes, beqI_no, bneI_yes, bneI_no, isNil_nil, isNil_iface, wr_wr, Option.isNone_none, Option.isNone_some, plus, Nat.zero_add, Nat.add_zero, chip_ldOff h, ho, chip_ldIs h hp, hi]
    rw [wr_same h]; rfl
  | false =>
  rw [if_neg (by simp)]
  have hst := nand_step_is k h hs hb
  by_cases h1 : σ.step.1 = 0
  rotate_left
  · have e := decide_eq_false h1
    rw [if_pos h1]
    simp (disch := omega) only [Option.bind_some, Option.map_some, cond_true, cond_false, wrap_i64, tmod_pos, tdiv_pos, inRange_yes, inUpto_yes, isZero_no, decide_eq_true, decide_eq_false, Bool.not_true, Bool.not_false, Int.toNat_natCast, Nat.mul_one, beqI_yes, beqI_no, bneI_yes, bneI_no, isNil_nil, isNil_iface, wr_wr, Option.isNone_none, Option.isNone_some, plus, Nat.zero_add, Nat.add_zero, chip_ldOff h, ho, chip_ldIs h hp, hi, hst, isNil_errC, e]
  have e := decide_eq_true h1
  rw [if_neg (by simpa using h1)]
  have hp' := hp
  obtain ⟨h0, h2, h3, h4⟩ := hp'
  have g1 := wr_get (cs := chipC σ.step.2) h
  have eb := chip_ldBefore g1 (x := p / 8) (by omega) (by omega)
  have hbf := hw (p / 8)
  rw [← step_b σ] at hbf
  have fin : ∀ (v : Value) (mm : Mem), nand_Chip_Write_j1 k p a 64 (some ⟨c, chA p q, none⟩, v, mm) ⟨c, 0, none⟩ (wr m c (chipC (σ.step.2.updB (p / 8) (σ.step.2.b (p / 8)).worn))) =
      some (errC (if (σ.step.2.b (p / 8)).worn.failed = true then (8, σ.step.2.updB (p / 8) (σ.step.2.b (p / 8)).worn) else (0, (σ.step.2.updB (p / 8) (σ.step.2.b (p / 8)).worn).put p q ⟨f, f, true, 0⟩) : Int × ChipS).1,
        wr m c (chipC (if (σ.step.2.b (p / 8)).worn.failed = true then (8, σ.step.2.updB (p / 8) (σ.step.2.b (p / 8)).worn) else (0, (σ.step.2.updB (p / 8) (σ.step.2.b (p / 8)).worn).put p q ⟨f, f, true, 0⟩) : Int × ChipS).2)) := by
    intro v mm
    rw [write_j1 k (wr_get h) hp (hsrc rfl _), updB_b]
    split
    · rfl
    · rw [wr_wr]; rfl
  by_cases hz : (σ.step.2.b (p / 8)).before > 0
  · have hworn : (σ.step.2.b (p / 8)).worn = { σ.step.2.b (p / 8) with before := (σ.step.2.b (p / 8)).before - 1, failed := (σ.step.2.b (p / 8)).failed || (σ.step.2.b (p / 8)).before - 1 == 0 } := by
      unfold BlockS.worn; rw [if_pos hz]
    have e2 := chip_stBefore g1 (x := p / 8) (by omega) (by omega) ((σ.step.2.b (p / 8)).before - 1)
    rw [wr_wr] at e2
    have g2 := wr_get (cs := chipC (σ.step.2.updB (p / 8) { σ.step.2.b (p / 8) with before := (σ.step.2.b (p / 8)).before - 1 })) h
    have e3 := chip_ldFailed g2 (x := p / 8) (by omega) (by omega)
    rw [updB_b] at e3
    have e4 := chip_ldBefore g2 (x := p / 8) (by omega) (by omega)
    rw [updB_b] at e4
    cases hf : (σ.step.2.b (p / 8)).failed with
    | true =>
      rw [hf, Bool.true_or] at hworn
      have e5 := chip_stFailed g2 (x := p / 8) (by omega) (by omega) true
      rw [updB_b, updB_updB, wr_wr] at e5
      rw [hworn] at fin ⊢
      have e3 := e3.trans (congrArg some hf)
      simp (disch := omega) only [Option.bind_some, Option.map_some, cond_true, cond_false, wrap_i64, tmod_pos, tdiv_pos, inRange_yes, inUpto_yes, isZero_no, decide_eq_true, decide_eq_false, Bool.not_true, Bool.not_false, Int.toNat_natCast, Nat.mul_one, beqI_yes, beqI_no, bneI_yes, bneI_no, isNil_nil, isNil_iface, wr_wr, Option.isNone_none, Option.isNone_some, plus, Nat.zero_add, Nat.add_zero, chip_ldOff h, ho, chip_ldIs h hp, hi, hst, isNil_errC, e, eb, e2, e3, e5, fin]
    | false =>
      rw [hf, Bool.false_or] at hworn
      have e5 := chip_stFailed g2 (x := p / 8) (by omega) (by omega) ((σ.step.2.b (p / 8)).before - 1 == 0)
      rw [updB_b, updB_updB, wr_wr] at e5
      rw [hworn] at fin ⊢
      have e3 := e3.trans (congrArg some hf)
      simp (disch := omega) only [Option.bind_some, Option.map_some, cond_true, cond_false, wrap_i64, tmod_pos, tdiv_pos, inRange_yes, inUpto_yes, isZero_no, decide_eq_true, decide_eq_false, Bool.not_true, Bool.not_false, Int.toNat_natCast, Nat.mul_one, beqI_yes, beqI_no, bneI_yes, bneI_no, isNil_nil, isNil_iface, wr_wr, Option.isNone_none, Option.isNone_some, plus, Nat.zero_add, Nat.add_zero, chip_ldOff h, ho, chip_ldIs h hp, hi, hst, isNil_errC, e, eb, e2, e3, e4, e5, fin]
  · have hworn : (σ.step.2.b (p / 8)).worn = σ.step.2.b (p / 8) := by
      unfold BlockS.worn; rw [if_neg hz]
    rw [hworn, updB_self] at fin ⊢
    simp (disch := omega) only [Option.bind_some, Option.map_some, cond_true, cond_false, wrap_i64, tmod_pos, tdiv_pos, inRange_yes, inUpto_yes, isZero_no, decide_eq_true, decide_eq_false, Bool.not_true, Bool.not_false, Int.toNat_natCast, Nat.mul_one, beqI_yes, beqI_no, bneI_yes, bneI_no, isNil_nil, isNil_iface, wr_wr, Option.isNone_none, Option.isNone_some, plus, Nat.zero_add, Nat.add_zero, chip_ldOff h, ho, chip_ldIs h hp, hi, hst, isNil_errC, e, eb, fin]
end
end Go.Proofs.Ytchonnaoojpdoaa

/- What a chip's functions do: a new one, a page that is read; the laws' helpers. -/
set_option linter.unusedVariables false
set_option linter.unusedSectionVars false
set_option linter.unusedSimpArgs false
namespace Go.Proofs.Ytchonnaoojpdoaa
open Go.Mx

def zblock : BlockS := ⟨fun _ => zeroCh, 0, false, 0, false⟩
def fblock : BlockS := ⟨fun _ => blank, 0, false, 0, false⟩
def zchip : ChipS := ⟨fun _ => zblock, false, false, 0, 0⟩
def fresh : ChipS := ⟨fun _ => fblock, false, false, 0, 0⟩
theorem chunk_zero : ((repl 64 [Value.int .u8 0]) ++ (repl 64 [Value.int .u8 0]) ++ [Value.bool false] ++ [Value.int .i64 0]) = chunkC zeroCh := by
  rw [repl_int]; simp [chunkC, zeroCh]
theorem block_zero : ((repl 8 (repl 4 (chunkC zeroCh))) ++ ([] ++ [] ++ [Value.int .i64 0]) ++ [Value.bool false] ++ [Value.int .i64 0] ++ [Value.bool false]) = blockC zblock := by
  rw [repl_repl, repl_farr]
  unfold blockC zblock
  simp only [List.append_assoc, List.nil_append, List.cons_append]
theorem chip_zero : ((repl 12 (blockC zblock)) ++ [Value.bool false] ++ [Value.bool false] ++ [Value.int .i64 0] ++ [Value.int .i64 0]) = chipC zchip := by
  rw [repl_farr]
  unfold chipC zchip
  simp only [List.append_assoc, List.nil_append, List.cons_append]
theorem tt_chip : ∃ d s b q, tt ty_nand_Chip = ⟨d, s, b, ((repl 12 ((repl 8 (repl 4 ((repl 64 [.int .u8 0]) ++ (repl 64 [.int .u8 0]) ++ [.bool false] ++ [.int .i64 0]))) ++ ([] ++ [] ++ [.int .i64 0]) ++ [.bool false] ++ [.int .i64 0] ++ [.bool false])) ++ [.bool false] ++ [.bool false] ++ [.int .i64 0] ++ [.int .i64 0]), q⟩ :=
  ⟨_, _, _, _, rfl⟩
theorem zero_chip : (tt ty_nand_Chip).zero = chipC zchip := by
  obtain ⟨d, s, b, q, h⟩ := tt_chip
  rw [h]
  simp only
  rw [chunk_zero, block_zero, chip_zero]

theorem chipNew_ok (k : Nat) (hk : 100 < k) {m : Mem} {F : Heap} (hO : Mx.Own m F) : Ok (nand_New k m) fun r => ∃ c, r.1 = some ⟨c, 0, none⟩ ∧ Mx.Own r.2 ((c, .live (chipC fresh)) :: F) := by
  unfold nand_New
  have hl : Nat.beq (chipC zchip).length 49972 = true := by rw [chipC_len]; rfl
  have h1 := hO.new (.live (chipC zchip))
  rw [zero_chip]
  simp (disch := omega) only [Option.bind_some, Option.map_some, cond_true, cond_false, wrap_i64, tmod_pos, tdiv_pos, inRange_yes, inUpto_yes, isZero_no, decide_eq_true, decide_eq_false, Bool.not_true, Bool.not_false, Int.toNat_natCast, Nat.mul_one, beqI_yes, beqI_no, bneI_yes, bneI_no, isNil_nil, isNil_iface, wr_wr, Option.isNone_none, Option.isNone_some, plus, Nat.zero_add, Nat.add_zero, hl]
  generalize m ++ [MObj.live (chipC zchip)] = m1 at h1 ⊢
  generalize m.length = c at h1 ⊢
  refine nand_New_l0_rule k _ (fun d x1 x5 m' => (⟨c, 0, none⟩ : Addr) = x1 ∧ 0 ≤ x5 ∧ x5 + d = 12 ∧ ∃ f : Int → BlockS, (∀ y, y < x5 → f y = fblock) ∧ (∀ y, x5 ≤ y → f y = zblock) ∧ Mx.Own m' ((c, .live (chipC { zchip with b := f })) :: F)) ?_ k 12 _ 0 _ (by omega)
    ⟨rfl, by omega, by omega, fun y => if y < 0 then fblock else zblock, fun y hy => if_pos hy, fun y hy => if_neg (by omega), by
      rw [← chipC_congr (σ := zchip) fun x h2 h3 => by simp only [if_neg (show ¬ x < 0 by omega)]; rfl]; exact h1⟩
  rintro d nx _ i m' ⟨rfl, hi, hd, f, hf, hg, h2⟩ hnx
  unfold nand_New_l0_b
  by_cases h3 : i < 12
  · obtain ⟨g, e⟩ := nand_clear_ok k hk (h2.at 0 rfl) hi h3
    simp (disch := omega) only [Option.bind_some, Option.map_some, cond_true, cond_false, wrap_i64, tmod_pos, tdiv_pos, inRange_yes, inUpto_yes, isZero_no, decide_eq_true, decide_eq_false, Bool.not_true, Bool.not_false, Int.toNat_natCast, Nat.mul_one, beqI_yes, beqI_no, bneI_yes, bneI_no, isNil_nil, isNil_iface, wr_wr, Option.isNone_none, Option.isNone_some, plus, Nat.zero_add, Nat.add_zero, e]
    refine hnx (d - 1) _ _ _ (by omega) ⟨rfl, by omega, by omega, upd f i fblock, fun y hy => ?_, fun y hy => ?_, ?_⟩
    · unfold upd; split
      · rfl
      · exact hf y (by omega)
    · rw [upd_ne (by omega)]; exact hg y (by omega)
    · have := (h2.wr 0 rfl (chipC (({ zchip with b := f } : ChipS).updB i (f i).clear))).grow [g]
      rw [hg i (by omega)] at this
      have e2 : chipC (({ zchip with b := f } : ChipS).updB i ((({ zchip with b := f } : ChipS).b i)).clear) = chipC (({ zchip with b := f } : ChipS).updB i zblock.clear) := by simp only [hg i (Int.le_refl _)]
      rw [e2]
      exact this
  · simp (disch := omega) only [Option.bind_some, Option.map_some, cond_true, cond_false, wrap_i64, tmod_pos, tdiv_pos, inRange_yes, inUpto_yes, isZero_no, decide_eq_true, decide_eq_false, Bool.not_true, Bool.not_false, Int.toNat_natCast, Nat.mul_one, beqI_yes, beqI_no, bneI_yes, bneI_no, isNil_nil, isNil_iface, wr_wr, Option.isNone_none, Option.isNone_some, plus, Nat.zero_add, Nat.add_zero]
    refine .some ⟨c, rfl, ?_⟩
    rw [chipC_congr (σ := fresh) (f := f) fun x h4 h5 => by rw [hf x (by omega)]; rfl]
    exact h2

def ChipS.page (σ : ChipS) (p : Int) : Int → Int := fun i => (σ.at_ p (i / 64)).now (i % 64)
def ChipS.readd (σ : ChipS) (p : Int) : ChipS := σ.updB (p / 8) { σ.b (p / 8) with reads := (σ.b (p / 8)).reads + 1 }
theorem readd_at (σ : ChipS) (p q k : Int) : (σ.readd p).at_ q k = σ.at_ q k := by
  unfold ChipS.readd ChipS.at_ ChipS.updB upd
  simp only
  split
  · rename_i h; rw [h]
  · rfl
theorem chipRead_off (k : Nat) {m : Mem} {c : Nat} {σ : ChipS} (h : m[c]? = some (.live (chipC σ))) {p : Int} (h0 : 0 ≤ p) (h1 : p < 96) (ho : σ.off = true) : nand_Chip_Read k (some ⟨c, 0, none⟩) p m = some (⟨none, 0, 0⟩, errC 7, m) := by
  unfold nand_Chip_Read
  rw [nand_at_is, if_pos ⟨h0, h1, by omega, by omega⟩]
  simp (disch := omega) only [Option.bind_some, Option.map_some, cond_true, cond_false, wrap_i64, tmod_pos, tdiv_pos, inRange_yes, inUpto_yes, isZero_no, decide_eq_true, decide_eq_false, Bool.not_true, Bool.not_false, Int.toNat_natCast, Nat.mul_one, beqI_yes, beqI_no, bneI_yes, bneI_no, isNil_nil, isNil_iface, wr_wr, Option.isNone_none, Option.isNone_some, plus, Nat.zero_add, Nat.add_zero, chip_ldOff h, ho]
  rfl
theorem chipRead_ok (k : Nat) (hk : 100 < k) {m : Mem} {c : Nat} {σ : ChipS} {F : Heap} (hO : Mx.Own m ((c, .live (chipC σ)) :: F)) {p : Int} (h0 : 0 ≤ p) (h1 : p < 96) (ho : σ.off = false) (hr : 0 ≤ (σ.b (p / 8)).reads ∧ (σ.b (p / 8)).reads < 4611686018427387904) :
    Ok (nand_Chip_Read k (some ⟨c, 0, none⟩) p m) fun r => ∃ d, r.1 = ⟨some ⟨d, 0, none⟩, 256, 256⟩ ∧ r.2.1 = .nilIface ∧ Mx.Own r.2.2 ((d, .live (arr .u8 256 (σ.page p))) :: (c, .live (chipC (σ.readd p))) :: F) := by
  have h := hO.at 0 rfl
  unfold nand_Chip_Read
  rw [nand_at_is, if_pos ⟨h0, h1, by omega, by omega⟩]
  have e1 := chip_ldReads h (x := p / 8) (by omega) (by omega)
  have e2 := chip_stReads h (x := p / 8) (by omega) (by omega) ((σ.b (p / 8)).reads + 1)
  have t256 : Int.toNat 256 = 256 := rfl
  have t0 : Int.toNat 0 = 0 := rfl
  have hO1 := hO.wr 0 rfl (chipC (σ.readd p))
  have hO2 := hO1.new (.live (arr .u8 256 fun _ => 0))
  rw [wr_len] at hO2
  simp (disch := omega) only [Option.bind_some, Option.map_some, cond_true, cond_false, wrap_i64, tmod_pos, tdiv_pos, inRange_yes, inUpto_yes, isZero_no, decide_eq_true, decide_eq_false, Bool.not_true, Bool.not_false, Int.toNat_natCast, Nat.mul_one, beqI_yes, beqI_no, bneI_yes, bneI_no, isNil_nil, isNil_iface, wr_wr, Option.isNone_none, Option.isNone_some, plus, Nat.zero_add, Nat.add_zero, chip_ldOff h, ho, sync_atomic_Int64_Add, sync_atomic_AddInt64, atAdd, e1, e2, repl_int, t256, t0, wr_len]
  change Ok (nand_Chip_Read_l0 _ _ _ _ _ _ _ _ _ (wr m c (chipC (σ.readd p)) ++ _)) _
  generalize wr m c (chipC (σ.readd p)) ++ [MObj.live (arr .u8 256 fun _ => 0)] = m1 at hO2 ⊢
  generalize m.length = d0 at hO2 ⊢
  refine nand_Chip_Read_l0_rule k _ (fun d x1 x8 x9a x9n x9c x36 m' => p = x1 ∧ (⟨c, (p / 8).toNat * 4164, none⟩ : Addr) = x8 ∧ (some ⟨d0, 0, none⟩ : Option Addr) = x9a ∧ 256 = x9c ∧ ∃ j : Nat, x36 = j ∧ j + d = 4 ∧ 64 * j = x9n ∧
    Mx.Own m' ((d0, .live (arr .u8 256 fun i => if i < ((64 * j : Nat) : Int) then σ.page p i else 0)) :: (c, .live (chipC (σ.readd p))) :: F)) ?_ k 4 _ _ _ _ _ 0 _ (by omega)
    ⟨rfl, rfl, rfl, rfl, 0, rfl, by omega, rfl, by
      rw [arr_congr (f := fun i => if i < ((64 * 0 : Nat) : Int) then σ.page p i else 0) (g := fun _ => 0) fun i h3 h4 => if_neg (by omega)]; exact hO2⟩
  rintro d nx _ _ _ _ _ _ m' ⟨rfl, rfl, rfl, rfl, j, rfl, hd, rfl, hO3⟩ hnx
  unfold nand_Chip_Read_l0_b
  by_cases h3 : j < 4
  · have e3 := rdSl_ld (n := 64) (z := 1) (chip_cellsNow (hO3.at 1 rfl) (p := p) (k := (j : Int)) ⟨h0, h1, by omega, by omega⟩)
    rw [readd_at] at e3
    have e4 := stCells_wr (sp := none) (vs := arr .u8 64 (σ.at_ p j).now) (hO3.at 0 rfl) (off := 64 * j) (by simp; omega)
    rw [arr_length, arr_put (n := 256) (o := 64 * j) (l := 64) (by omega)] at e4
    have e5 : ∀ a : Addr, sliceK.clear (some ⟨c, a.off, none⟩) true = some ⟨c, a.off, none⟩ := fun _ => rfl
    have e6 : sliceK.clear (some ⟨c, (p / 8).toNat * 4164 + (p % 8).toNat * 520 + j * 130, none⟩) true = some ⟨c, chA p j, none⟩ := by
      unfold chA; rw [Int.toNat_natCast]; rfl
    simp (disch := omega) only [Option.bind_some, Option.map_some, cond_true, cond_false, wrap_i64, tmod_pos, tdiv_pos, inRange_yes, inUpto_yes, isZero_no, decide_eq_true, decide_eq_false, Bool.not_true, Bool.not_false, Int.toNat_natCast, Nat.mul_one, beqI_yes, beqI_no, bneI_yes, bneI_no, isNil_nil, isNil_iface, wr_wr, Option.isNone_none, Option.isNone_some, plus, Nat.zero_add, Nat.add_zero, e6, e3, appM_room, e4]
    refine hnx (d - 1) _ _ _ _ _ _ _ (by omega) ⟨rfl, rfl, rfl, rfl, j + 1, by omega, by omega, by omega, ?_⟩
    have := hO3.wr 0 rfl (arr .u8 256 fun i => if ((64 * j : Nat) : Int) ≤ i ∧ i < ((64 * j : Nat) : Int) + ((64 : Nat) : Int) then (σ.at_ p j).now (i - ((64 * j : Nat) : Int)) else (fun i => if i < ((64 * j : Nat) : Int) then σ.page p i else 0) i)
    have ec := arr_congr (k := .u8) (n := 256) (f := fun i => if i < ((64 * (j + 1) : Nat) : Int) then σ.page p i else 0) (g := fun i => if ((64 * j : Nat) : Int) ≤ i ∧ i < ((64 * j : Nat) : Int) + ((64 : Nat) : Int) then (σ.at_ p j).now (i - ((64 * j : Nat) : Int)) else (fun i => if i < ((64 * j : Nat) : Int) then σ.page p i else 0) i) fun i h6 h7 => by
      by_cases h8 : ((64 * j : Nat) : Int) ≤ i ∧ i < ((64 * j : Nat) : Int) + ((64 : Nat) : Int)
      · simp only [if_pos h8]
        rw [if_pos (by omega)]
        unfold ChipS.page
        rw [show i / 64 = j by omega, show i % 64 = i - ((64 * j : Nat) : Int) by omega]
      · simp only [if_neg h8]
        by_cases h9 : i < ((64 * j : Nat) : Int)
        · rw [if_pos h9, if_pos (by omega)]
        · rw [if_neg h9, if_neg (by omega)]
    rw [ec]
    exact this
  · obtain rfl : j = 4 := by omega
    simp (disch := omega) only [Option.bind_some, Option.map_some, cond_true, cond_false, wrap_i64, tmod_pos, tdiv_pos, inRange_yes, inUpto_yes, isZero_no, decide_eq_true, decide_eq_false, Bool.not_true, Bool.not_false, Int.toNat_natCast, Nat.mul_one, beqI_yes, beqI_no, bneI_yes, bneI_no, isNil_nil, isNil_iface, wr_wr, Option.isNone_none, Option.isNone_some, plus, Nat.zero_add, Nat.add_zero]
    refine .some ⟨d0, rfl, rfl, ?_⟩
    rw [arr_congr (f := σ.page p) (g := fun i => if i < ((64 * 4 : Nat) : Int) then σ.page p i else 0) fun i h5 h6 => (if_pos (by omega)).symm]
    exact hO3

end Go.Proofs.Ytchonnaoojpdoaa

/- What a chip's functions do: bits are turned; the document's example. -/
set_option linter.unusedVariables false
set_option linter.unusedSectionVars false
set_option linter.unusedSimpArgs false
namespace Go.Proofs.Ytchonnaoojpdoaa
open Go.Mx

def flipC (s : ChunkS) (i b : Int) : ChunkS := { s with now := upd s.now i (bitI .xor .u8 (s.now i) (shlI .u8 1 b)) }
def ChunkS.mark (s t : ChunkS) : ChunkS := { t with worst := maxI s.worst t.damage }
def ChipS.flip (σ : ChipS) (p b : Int) : ChipS := σ.put p (b / 512) ((σ.at_ p (b / 512)).mark (flipC (σ.at_ p (b / 512)) (b / 8 % 64) (b % 8)))
theorem nand_Flip_is (k : Nat) (hk : 64 < k) {m : Mem} {c : Nat} {σ : ChipS} (h : m[c]? = some (.live (chipC σ))) {p b : Int} (h0 : 0 ≤ p) (h1 : p < 96) (h2 : 0 ≤ b) (h3 : b < 2048) :
    nand_Chip_Flip k (some ⟨c, 0, none⟩) p b m = some (.nilIface, wr m c (chipC (σ.flip p b))) := by
  unfold nand_Chip_Flip
  have hq : IntKind.wrap .i64 (Int.tdiv (IntKind.wrap .i64 (Int.tdiv b 8)) 64) = b / 512 := by simp (disch := omega) only [Option.bind_some, Option.map_some, cond_true, cond_false, wrap_i64, tmod_pos, tdiv_pos, inRange_yes, inUpto_yes, isZero_no, decide_eq_true, decide_eq_false, Bool.not_true, Bool.not_false, Int.toNat_natCast, Nat.mul_one, beqI_yes, beqI_no, bneI_yes, bneI_no, isNil_nil, isNil_iface, wr_wr, Option.isNone_none, Option.isNone_some, plus, Nat.zero_add, Nat.add_zero]; omega
  have hp : isAt p (b / 512) := ⟨h0, h1, by omega, by omega⟩
  rw [hq, nand_at_is, if_pos hp]
  have e1 := chip_ldNow h hp (i := b / 8 % 64) (by omega) (by omega)
  have e2 := chip_stNow h hp (i := b / 8 % 64) (by omega) (by omega) (bitI .xor .u8 ((σ.at_ p (b / 512)).now (b / 8 % 64)) (shlI .u8 1 (b % 8)))
  have g1 := wr_get (cs := chipC (σ.put p (b / 512) (flipC (σ.at_ p (b / 512)) (b / 8 % 64) (b % 8)))) h
  have e3 := chip_ldWorst g1 hp
  have e4 := nand_damage_is k g1 hk hp
  have e5 := chip_stWorst g1 hp (maxI (σ.at_ p (b / 512)).worst (flipC (σ.at_ p (b / 512)) (b / 8 % 64) (b % 8)).damage)
  rw [put_at] at e3 e4
  rw [put_at, put_put, wr_wr] at e5
  have e3 : ldInt .i64 (wr m c (chipC (σ.put p (b / 512) (flipC (σ.at_ p (b / 512)) (b / 8 % 64) (b % 8))))) ⟨c, chA p (b / 512) + 129, none⟩ = some (σ.at_ p (b / 512)).worst := e3
  have e2 : st m ⟨c, chA p (b / 512) + (b / 8 % 64).toNat, none⟩ (.int .u8 (bitI .xor .u8 ((σ.at_ p (b / 512)).now (b / 8 % 64)) (shlI .u8 1 (b % 8)))) = some (wr m c (chipC (σ.put p (b / 512) (flipC (σ.at_ p (b / 512)) (b / 8 % 64) (b % 8))))) := e2
  simp (disch := omega) only [Option.bind_some, Option.map_some, cond_true, cond_false, wrap_i64, tmod_pos, tdiv_pos, inRange_yes, inUpto_yes, isZero_no, decide_eq_true, decide_eq_false, Bool.not_true, Bool.not_false, Int.toNat_natCast, Nat.mul_one, beqI_yes, beqI_no, bneI_yes, bneI_no, isNil_nil, isNil_iface, wr_wr, Option.isNone_none, Option.isNone_some, plus, Nat.zero_add, Nat.add_zero, e1, e2, e3, e4, e5, beq_self_eq_true]
  rfl
theorem write_O (k : Nat) {m : Mem} {c d : Nat} {σ : ChipS} {f : Int → Int} {F : Heap} (hO : Mx.Own m ((c, .live (chipC σ)) :: (d, .live (arr .u8 64 f)) :: F)) (hs : 0 ≤ σ.steps ∧ σ.steps < 4611686018427387904) (hb : 0 ≤ σ.budget ∧ σ.budget < 9223372036854775808) (hw : ∀ x, 0 ≤ (σ.b x).before ∧ (σ.b x).before < 9223372036854775808) (p q : Int) {cc : Nat} :
    nand_Chip_Write k (some ⟨c, 0, none⟩) p q (some ⟨d, 0, none⟩) 64 cc m = some (errC (σ.write p q 64 f).1, wr m c (chipC (σ.write p q 64 f).2)) :=
  nand_Write_is k (hO.at 0 rfl) hs hb hw p q fun _ τ => rdSl_all (n := 64) (z := 1) ((hO.wr 0 rfl (chipC τ)).at 1 rfl) (by simp)
theorem write_plain {σ : ChipS} {p q : Int} {f : Int → Int} (hp : isAt p q) (h1 : (σ.b (p / 8)).before = 0) (h2 : (σ.b (p / 8)).failed = false) :
    σ.write p q 64 f = if σ.off = true then (7, σ) else if (σ.at_ p q).is = true then (9, σ) else if σ.step.1 ≠ 0 then σ.step else (0, σ.step.2.put p q ⟨f, f, true, 0⟩) := by
  unfold ChipS.write
  have hw : (σ.step.2.b (p / 8)).worn = σ.step.2.b (p / 8) := by
    unfold BlockS.worn; rw [step_b, h1]; rfl
  rw [if_neg (not_not_intro hp), if_neg (by simp), hw, updB_self, step_b, h2]
  simp

end Go.Proofs.Ytchonnaoojpdoaa

/- The document's chip: where its parts lie, what is loaded and stored of it. -/
set_option linter.unusedVariables false
set_option linter.unusedSectionVars false
set_option linter.unusedSimpArgs false
namespace Go.Proofs.Ytchonnaoojpdoaa
open Go.Mx

/-! ## what changed of a memory -/
/-- nothing changed but objects of a set; new ones came -/
structure Ch (P : Nat → Prop) (m m' : Mem) : Prop where
  len : m.length ≤ m'.length
  get : ∀ p, p < m.length → ¬ P p → m'[p]? = m[p]?
theorem Ch.refl (P : Nat → Prop) (m : Mem) : Ch P m m := ⟨Nat.le_refl _, fun _ _ _ => rfl⟩
theorem Ch.trans {P : Nat → Prop} {m m' m'' : Mem} (h : Ch P m m') (h' : Ch P m' m'') : Ch P m m'' := ⟨Nat.le_trans h.len h'.len, fun p hp hn => by rw [h'.get p (Nat.lt_of_lt_of_le hp h.len) hn, h.get p hp hn]⟩
theorem Gr.ch {P : Nat → Prop} {m m' : Mem} (h : Gr m m') : Ch P m m' := by
  obtain ⟨g, rfl⟩ := h
  exact ⟨by simp, fun p hp _ => get_app_lt hp⟩
theorem Ch.wr {P : Nat → Prop} {m m' : Mem} (h : Ch P m m') {p : Nat} (hp : P p ∨ m.length ≤ p) (cs : List Value) : Ch P m (wr m' p cs) :=
  ⟨by rw [wr_len]; exact h.len, fun q hq hn => by
    rw [wr_ne (fun he => by subst he; rcases hp with h1 | h1; exact hn h1; omega)]; exact h.get q hq hn⟩
theorem Ch.app {P : Nat → Prop} {m m' : Mem} (h : Ch P m m') (g : Mem) : Ch P m (m' ++ g) := h.trans (Gr.app _ _).ch
theorem Ch.old {P : Nat → Prop} {m m' : Mem} (h : Ch P m m') {p : Nat} {o : MObj} (hp : m[p]? = some o) (hn : ¬ P p) : m'[p]? = some o := by rw [h.get p (get_lt hp) hn]; exact hp
/-- what is new may change, too -/
theorem Ch.more {P Q : Nat → Prop} {m m' m'' : Mem} (h : Ch P m m') (h' : Ch Q m' m'') (hq : ∀ p, p < m.length → Q p → P p) : Ch P m m'' :=
  ⟨Nat.le_trans h.len h'.len, fun p hp hn => by rw [h'.get p (Nat.lt_of_lt_of_le hp h.len) (fun h2 => hn (hq p hp h2)), h.get p hp hn]⟩
theorem Ch.gr {m m' : Mem} (h : Ch (fun _ => False) m m') : Gr m m' := by
  refine ⟨m'.drop m.length, ?_⟩
  apply List.ext_getElem?
  intro p
  by_cases hp : p < m.length
  · rw [List.getElem?_append_left hp]; exact h.get p hp id
  · rw [List.getElem?_append_right (by omega), List.getElem?_drop]; congr 1; omega

/-! ## where the parts of a chip lie -/
inductive CL | l | n (j : Int) | t (j : Int)
  deriving DecidableEq
inductive Lab | chip | blocks | of (i : Int) (c : CL)
  deriving DecidableEq
structure RG where
  q : Nat
  L : Int → Nat
  N : Int → Int → Nat × Bool
  T : Int → Int → Nat × Bool
  A : Int → Int
def budR (σ : ChipS) : Int := if σ.cut then σ.budget else -1
def rblk (L : Nat) (a : Int) (β : BlockS) : List Value := [.slice (some ⟨L, 0, some 4⟩) 32 32, .int .i64 β.reads, .bool β.failed, .int .i64 a, .bool β.atErase]
def rch (n t : Nat × Bool) (c : ChunkS) : List Value := [.slice (rowA (some n)) 64 64, .slice (rowA (some t)) 64 64, .bool c.is, .int .i64 c.worst]
def rhead (q : Nat) (σ : ChipS) : List Value := [.slice (some ⟨q, 0, some 5⟩) 12 12, .bool (!σ.off), .int .i64 (budR σ), .int .i64 σ.steps]
def rblks (g : RG) (σ : ChipS) : List Value := farr 12 fun i => rblk (g.L i) (g.A i) (σ.b i)
def rchs (g : RG) (i : Int) (β : BlockS) : List Value := farr 32 fun j => rch (g.N i j) (g.T i j) (β.ch j)
def AtOk (steps a b : Int) : Prop := (a + 1 = b ∨ a = b ∧ 9223372036854775807 ≤ b + steps) ∧ -1 ≤ a ∧ a < 9223372036854775808
structure RefX (m : Mem) (r : Nat) (lab : Nat → Option Lab) (g : RG) (σ : ChipS) : Prop where
  chip : m[r]? = some (.live (rhead g.q σ))
  lr : lab r = some .chip
  blocks : m[g.q]? = some (.live (rblks g σ))
  lq : lab g.q = some .blocks
  ls : ∀ i, 0 ≤ i → i < 12 → m[g.L i]? = some (.live (rchs g i (σ.b i))) ∧ lab (g.L i) = some (.of i .l)
  ns : ∀ i j, 0 ≤ i → i < 12 → 0 ≤ j → j < 32 → m[(g.N i j).1]? = some (.live (arr .u8 64 ((σ.b i).ch j).now)) ∧ lab (g.N i j).1 = some (.of i (.n j))
  ts : ∀ i j, 0 ≤ i → i < 12 → 0 ≤ j → j < 32 → m[(g.T i j).1]? = some (.live (arr .u8 64 ((σ.b i).ch j).tru)) ∧ lab (g.T i j).1 = some (.of i (.t j))
  at_ : ∀ i, 0 ≤ i → i < 12 → AtOk σ.steps (g.A i) (σ.b i).before
  lt : ∀ p, lab p ≠ none → p < m.length
theorem rblk_len {L : Nat} {a : Int} {β : BlockS} : (rblk L a β).length = 5 := rfl
theorem rch_len {n t : Nat × Bool} {c : ChunkS} : (rch n t c).length = 4 := rfl
theorem rblks_len {g : RG} {σ : ChipS} : (rblks g σ).length = 60 := farr_len (z := 5) fun _ _ _ => rfl
theorem rchs_len {g : RG} {i : Int} {β : BlockS} : (rchs g i β).length = 128 := farr_len (z := 4) fun _ _ _ => rfl
theorem rblks_get {g : RG} {σ : ChipS} {x : Int} (h0 : 0 ≤ x) (h1 : x < 12) {y : Nat} (hy : y < 5) : (rblks g σ)[x.toNat * 5 + y]? = (rblk (g.L x) (g.A x) (σ.b x))[y]? := by
  have := farr_get (n := 12) (z := 5) (f := fun i => rblk (g.L i) (g.A i) (σ.b i)) (fun _ _ _ => rfl) (i := x.toNat) (by omega) hy
  rw [Int.toNat_of_nonneg h0] at this; exact this
theorem rblks_set {g : RG} {σ : ChipS} {x : Int} (h0 : 0 ≤ x) (h1 : x < 12) {y : Nat} (hy : y < 5) {v : Value} {L' : Nat} {a' : Int} {β' : BlockS} (h : (rblk (g.L x) (g.A x) (σ.b x)).set y v = rblk L' a' β') :
    (rblks g σ).set (x.toNat * 5 + y) v = rblks { g with L := upd g.L x L', A := upd g.A x a' } (σ.updB x β') := by
  have := farr_set (n := 12) (z := 5) (f := fun i => rblk (g.L i) (g.A i) (σ.b i)) (fun _ _ _ => rfl) (i := x.toNat) (by omega) hy v
  rw [Int.toNat_of_nonneg h0] at this
  unfold rblks
  rw [this]
  refine farr_congr fun i _ _ => ?_
  by_cases hi : i = x
  · subst hi; simp [ChipS.updB, h]
  · simp [ChipS.updB, upd, hi]
theorem rchs_get {g : RG} {i : Int} {β : BlockS} {x : Int} (h0 : 0 ≤ x) (h1 : x < 32) {y : Nat} (hy : y < 4) : (rchs g i β)[x.toNat * 4 + y]? = (rch (g.N i x) (g.T i x) (β.ch x))[y]? := by
  have := farr_get (n := 32) (z := 4) (f := fun j => rch (g.N i j) (g.T i j) (β.ch j)) (fun _ _ _ => rfl) (i := x.toNat) (by omega) hy
  rw [Int.toNat_of_nonneg h0] at this; exact this

/-- a memory that has the same at its parts -/
theorem RefX.keep {m m' : Mem} {r : Nat} {lab : Nat → Option Lab} {g : RG} {σ : ChipS} (h : RefX m r lab g σ) (hln : m.length ≤ m'.length) (hk : ∀ p, lab p ≠ none → m'[p]? = m[p]?) : RefX m' r lab g σ where
  lt p hp := Nat.lt_of_lt_of_le (h.lt p hp) hln
  chip := by rw [hk r (by rw [h.lr]; simp)]; exact h.chip
  lr := h.lr
  blocks := by rw [hk _ (by rw [h.lq]; simp)]; exact h.blocks
  lq := h.lq
  ls i h0 h1 := by have := h.ls i h0 h1; exact ⟨by rw [hk _ (by rw [this.2]; simp)]; exact this.1, this.2⟩
  ns i j h0 h1 h2 h3 := by have := h.ns i j h0 h1 h2 h3; exact ⟨by rw [hk _ (by rw [this.2]; simp)]; exact this.1, this.2⟩
  ts i j h0 h1 h2 h3 := by have := h.ts i j h0 h1 h2 h3; exact ⟨by rw [hk _ (by rw [this.2]; simp)]; exact this.1, this.2⟩
  at_ := h.at_
theorem RefX.grow {m m' : Mem} {r : Nat} {lab : Nat → Option Lab} {g : RG} {σ : ChipS} (h : RefX m r lab g σ) (hg : Gr m m') : RefX m' r lab g σ := by
  refine h.keep hg.len fun p hp => ?_
  obtain ⟨g, rfl⟩ := hg
  exact get_app_lt (h.lt p hp)
/-- other numbers for what isn't told by it -/
theorem RefX.congr {m : Mem} {r : Nat} {lab : Nat → Option Lab} {g : RG} {σ τ : ChipS} (h : RefX m r lab g σ) (he : σ = τ) : RefX m r lab g τ := he ▸ h
theorem AtOk.mono {s s' a b : Int} (h : AtOk s a b) (hs : s ≤ s') : AtOk s' a b := by
  obtain ⟨h1, h2⟩ := h
  exact ⟨by omega, h2⟩
/-- its head is written -/
theorem RefX.head {m : Mem} {r : Nat} {lab : Nat → Option Lab} {g : RG} {σ τ : ChipS} (h : RefX m r lab g σ) (hb : τ.b = σ.b) (hs : σ.steps ≤ τ.steps) : RefX (wr m r (rhead g.q τ)) r lab g τ := by
  have hne : ∀ p l, lab p = some l → l ≠ .chip → (wr m r (rhead g.q τ))[p]? = m[p]? := fun p l hp hl => wr_ne (fun he => by subst he; rw [h.lr] at hp; cases hp; exact hl rfl)
  refine ⟨wr_get h.chip, h.lr, ?_, h.lq, fun i h0 h1 => ?_, fun i j h0 h1 h2 h3 => ?_, fun i j h0 h1 h2 h3 => ?_, fun i h0 h1 => ?_, fun p hp => by rw [wr_len]; exact h.lt p hp⟩
  · rw [hne _ _ h.lq (by simp), h.blocks]; unfold rblks; rw [hb]
  · have := h.ls i h0 h1
    rw [hb]; exact ⟨by rw [hne _ _ this.2 (by simp)]; exact this.1, this.2⟩
  · have := h.ns i j h0 h1 h2 h3
    rw [hb]; exact ⟨by rw [hne _ _ this.2 (by simp)]; exact this.1, this.2⟩
  · have := h.ts i j h0 h1 h2 h3
    rw [hb]; exact ⟨by rw [hne _ _ this.2 (by simp)]; exact this.1, this.2⟩
  · rw [hb]; exact (h.at_ i h0 h1).mono hs
/-- a block's own cells are written -/
theorem RefX.blk {m : Mem} {r : Nat} {lab : Nat → Option Lab} {g : RG} {σ : ChipS} (h : RefX m r lab g σ) {x : Int} {β' : BlockS} {a' : Int} (hc : β'.ch = (σ.b x).ch) (ha : 0 ≤ x → x < 12 → AtOk σ.steps a' β'.before) :
    RefX (wr m g.q (rblks { g with A := upd g.A x a' } (σ.updB x β'))) r lab { g with A := upd g.A x a' } (σ.updB x β') := by
  have hne : ∀ p l, lab p = some l → l ≠ .blocks → (wr m g.q (rblks { g with A := upd g.A x a' } (σ.updB x β')))[p]? = m[p]? := fun p l hp hl => wr_ne (fun he => by subst he; rw [h.lq] at hp; cases hp; exact hl rfl)
  have hch : ∀ i, ((σ.updB x β').b i).ch = (σ.b i).ch := fun i => by
    unfold ChipS.updB upd
    by_cases hi : i = x
    · subst hi; simp [hc]
    · simp [hi]
  refine ⟨?_, h.lr, wr_get h.blocks, h.lq, fun i h0 h1 => ?_, fun i j h0 h1 h2 h3 => ?_, fun i j h0 h1 h2 h3 => ?_, fun i h0 h1 => ?_, fun p hp => by rw [wr_len]; exact h.lt p hp⟩
  · rw [hne _ _ h.lr (by simp), h.chip]; rfl
  · have := h.ls i h0 h1
    refine ⟨?_, this.2⟩
    show (wr m g.q _)[g.L i]? = _
    rw [hne _ _ this.2 (by simp), this.1]
    unfold rchs; rw [hch]
  · have := h.ns i j h0 h1 h2 h3
    rw [hch]; exact ⟨by show (wr m g.q _)[(g.N i j).1]? = _; rw [hne _ _ this.2 (by simp)]; exact this.1, this.2⟩
  · have := h.ts i j h0 h1 h2 h3
    rw [hch]; exact ⟨by show (wr m g.q _)[(g.T i j).1]? = _; rw [hne _ _ this.2 (by simp)]; exact this.1, this.2⟩
  · show AtOk σ.steps (upd g.A x a' i) (upd σ.b x β' i).before
    by_cases hi : i = x
    · subst hi; rw [upd_same, upd_same]; exact ha h0 h1
    · rw [upd_ne hi, upd_ne hi]; exact h.at_ i h0 h1
/-- a chunk is another one, and lies elsewhere -/
theorem RefX.chunk {m m' : Mem} {r : Nat} {lab lab' : Nat → Option Lab} {g : RG} {σ : ChipS} (h : RefX m r lab g σ) {i j : Int} (i0 : 0 ≤ i) (i1 : i < 12) (j0 : 0 ≤ j) (j1 : j < 32) {n' t' : Nat × Bool} {c' : ChunkS} (hlt : ∀ p, lab' p ≠ none → p < m'.length) (hl : ∀ p, lab p ≠ none → lab' p = lab p)
    (hk : ∀ p, lab p ≠ none → p ≠ g.L i → p ≠ (g.N i j).1 → m'[p]? = m[p]?) (hL : m'[g.L i]? = some (.live (farr 32 (upd (fun j => rch (g.N i j) (g.T i j) ((σ.b i).ch j)) j (rch n' t' c')))))
    (hn : m'[n'.1]? = some (.live (arr .u8 64 c'.now)) ∧ lab' n'.1 = some (.of i (.n j))) (ht : m'[t'.1]? = some (.live (arr .u8 64 c'.tru)) ∧ lab' t'.1 = some (.of i (.t j))) :
    RefX m' r lab' { g with N := upd g.N i (upd (g.N i) j n'), T := upd g.T i (upd (g.T i) j t') } (σ.updB i ((σ.b i).updC j c')) := by
  have dif : ∀ p l, lab p = some l → l ≠ .of i .l → l ≠ .of i (.n j) → m'[p]? = m[p]? ∧ lab' p = some l := fun p l hp h1 h2 => by
    have hp0 : lab p ≠ none := by rw [hp]; simp
    refine ⟨hk p hp0 (fun he => ?_) (fun he => ?_), by rw [hl p hp0, hp]⟩
    · subst he; rw [(h.ls i i0 i1).2] at hp; cases hp; exact h1 rfl
    · subst he; rw [(h.ns i j i0 i1 j0 j1).2] at hp; cases hp; exact h2 rfl
  have sb : ∀ x, x ≠ i → (σ.updB i ((σ.b i).updC j c')).b x = σ.b x := fun x hx => upd_ne hx
  have si : (σ.updB i ((σ.b i).updC j c')).b i = (σ.b i).updC j c' := upd_same _ _ _
  refine ⟨?_, ?_, ?_, ?_, fun x h0 h1 => ?_, fun x y h0 h1 h2 h3 => ?_, fun x y h0 h1 h2 h3 => ?_, fun x h0 h1 => ?_, hlt⟩
  · rw [(dif _ _ h.lr (by simp) (by simp)).1, h.chip]; rfl
  · exact (dif _ _ h.lr (by simp) (by simp)).2
  · rw [(dif _ _ h.lq (by simp) (by simp)).1, h.blocks]
    unfold rblks
    rw [farr_congr fun x _ _ => ?_]
    by_cases hx : x = i
    · subst hx; rw [si]; rfl
    · rw [sb x hx]
  · exact (dif _ _ h.lq (by simp) (by simp)).2
  · by_cases hx : x = i
    · subst hx
      refine ⟨?_, by rw [hl _ (by rw [(h.ls x h0 h1).2]; simp)]; exact (h.ls x h0 h1).2⟩
      rw [hL, si]
      unfold rchs
      rw [farr_congr fun y _ _ => ?_]
      simp only [upd_same, BlockS.updC]
      by_cases hy : y = j
      · subst hy; simp
      · simp [upd, hy]
    · have := h.ls x h0 h1
      have d := dif _ _ this.2 (by simp; exact hx) (by simp)
      refine ⟨?_, d.2⟩
      rw [d.1, this.1, sb x hx]
      unfold rchs
      rw [farr_congr fun y _ _ => ?_]
      simp only [upd_ne hx]
  · by_cases hx : x = i
    · subst hx
      by_cases hy : y = j
      · subst hy
        rw [si]
        simp only [upd_same, BlockS.updC]
        exact hn
      · have := h.ns x y h0 h1 h2 h3
        have d := dif _ _ this.2 (by simp) (by simp; exact hy)
        rw [si]
        simp only [upd_same, BlockS.updC, upd_ne hy]
        exact ⟨by rw [d.1]; exact this.1, d.2⟩
    · have := h.ns x y h0 h1 h2 h3
      have d := dif _ _ this.2 (by simp) (by simp; intro h; exact absurd h hx)
      rw [sb x hx]
      simp only [upd_ne hx]
      exact ⟨by rw [d.1]; exact this.1, d.2⟩
  · by_cases hx : x = i
    · subst hx
      by_cases hy : y = j
      · subst hy
        rw [si]
        simp only [upd_same, BlockS.updC]
        exact ht
      · have := h.ts x y h0 h1 h2 h3
        have d := dif _ _ this.2 (by simp) (by simp)
        rw [si]
        simp only [upd_same, BlockS.updC, upd_ne hy]
        exact ⟨by rw [d.1]; exact this.1, d.2⟩
    · have := h.ts x y h0 h1 h2 h3
      have d := dif _ _ this.2 (by simp) (by simp)
      rw [sb x hx]
      simp only [upd_ne hx]
      exact ⟨by rw [d.1]; exact this.1, d.2⟩
  · by_cases hx : x = i
    · subst hx; rw [si]; exact h.at_ x h0 h1
    · rw [sb x hx]; exact h.at_ x h0 h1
/-- a whole block is another one -/
theorem RefX.block {m m' : Mem} {r : Nat} {lab lab' : Nat → Option Lab} {g : RG} {σ : ChipS} (h : RefX m r lab g σ) {i : Int} (i0 : 0 ≤ i) (i1 : i < 12) {L' : Nat} {N' T' : Int → Nat × Bool} {β' : BlockS} (hlt : ∀ p, lab' p ≠ none → p < m'.length) (hl : ∀ p, lab p ≠ none → lab' p = lab p)
    (hk : ∀ p, lab p ≠ none → p ≠ g.q → m'[p]? = m[p]?) (hq : m'[g.q]? = some (.live (rblks { g with L := upd g.L i L' } (σ.updB i β')))) (hat : AtOk σ.steps (g.A i) β'.before)
    (hL : m'[L']? = some (.live (farr 32 fun j => rch (N' j) (T' j) (β'.ch j))) ∧ lab' L' = some (.of i .l))
    (hn : ∀ j, 0 ≤ j → j < 32 → m'[(N' j).1]? = some (.live (arr .u8 64 (β'.ch j).now)) ∧ lab' (N' j).1 = some (.of i (.n j)))
    (ht : ∀ j, 0 ≤ j → j < 32 → m'[(T' j).1]? = some (.live (arr .u8 64 (β'.ch j).tru)) ∧ lab' (T' j).1 = some (.of i (.t j))) :
    RefX m' r lab' { g with L := upd g.L i L', N := upd g.N i N', T := upd g.T i T' } (σ.updB i β') := by
  have dif : ∀ p l, lab p = some l → l ≠ .blocks → m'[p]? = m[p]? ∧ lab' p = some l := fun p l hp h1 => by
    have hp0 : lab p ≠ none := by rw [hp]; simp
    refine ⟨hk p hp0 (fun he => ?_), by rw [hl p hp0, hp]⟩
    subst he; rw [h.lq] at hp; cases hp; exact h1 rfl
  have sb : ∀ x, x ≠ i → (σ.updB i β').b x = σ.b x := fun x hx => upd_ne hx
  have si : (σ.updB i β').b i = β' := upd_same _ _ _
  refine ⟨?_, ?_, hq, ?_, fun x h0 h1 => ?_, fun x y h0 h1 h2 h3 => ?_, fun x y h0 h1 h2 h3 => ?_, fun x h0 h1 => ?_, hlt⟩
  · rw [(dif _ _ h.lr (by simp)).1, h.chip]; rfl
  · exact (dif _ _ h.lr (by simp)).2
  · rw [hl _ (by rw [h.lq]; simp)]; exact h.lq
  · by_cases hx : x = i
    · subst hx
      simp only [upd_same, si]
      refine ⟨?_, hL.2⟩
      rw [hL.1]
      unfold rchs
      simp only [upd_same]
    · have := h.ls x h0 h1
      have d := dif _ _ this.2 (by simp)
      simp only [upd_ne hx, sb x hx]
      refine ⟨?_, d.2⟩
      rw [d.1, this.1]
      unfold rchs
      simp only [upd_ne hx]
  · by_cases hx : x = i
    · subst hx; simp only [upd_same, si]; exact hn y h2 h3
    · have := h.ns x y h0 h1 h2 h3
      have d := dif _ _ this.2 (by simp)
      simp only [upd_ne hx, sb x hx]
      exact ⟨by rw [d.1]; exact this.1, d.2⟩
  · by_cases hx : x = i
    · subst hx; simp only [upd_same, si]; exact ht y h2 h3
    · have := h.ts x y h0 h1 h2 h3
      have d := dif _ _ this.2 (by simp)
      simp only [upd_ne hx, sb x hx]
      exact ⟨by rw [d.1]; exact this.1, d.2⟩
  · by_cases hx : x = i
    · subst hx; rw [si]; exact hat
    · rw [sb x hx]; exact h.at_ x h0 h1

/-! ## loads -/
section
variable {m : Mem} {r : Nat} {lab : Nat → Option Lab} {g : RG} {σ : ChipS} (h : RefX m r lab g σ)
include h
theorem RefX.ldB : ldSl m ⟨r, 0, none⟩ = some ⟨some ⟨g.q, 0, some 5⟩, 12, 12⟩ := ldSl_of h.chip rfl
theorem RefX.ldOn : ldBool m ⟨r, 1, none⟩ = some (!σ.off) := ldBool_of h.chip rfl
theorem RefX.ldBud : ldInt .i64 m ⟨r, 2, none⟩ = some (budR σ) := ldInt_of h.chip rfl
theorem RefX.ldSteps : ldInt .i64 m ⟨r, 3, none⟩ = some σ.steps := ldInt_of h.chip rfl
section
variable {x : Int} (h0 : 0 ≤ x) (h1 : x < 12)
include h0 h1
theorem RefX.ldL : ldSl m ⟨g.q, x.toNat * 5, some 5⟩ = some ⟨some ⟨g.L x, 0, some 4⟩, 32, 32⟩ := ldSl_of h.blocks (rblks_get (y := 0) h0 h1 (by omega))
theorem RefX.ldReads : ldInt .i64 m ⟨g.q, x.toNat * 5 + 1, some 5⟩ = some (σ.b x).reads := ldInt_of h.blocks (rblks_get h0 h1 (by omega))
theorem RefX.ldFailed : ldBool m ⟨g.q, x.toNat * 5 + 2, some 5⟩ = some (σ.b x).failed := ldBool_of h.blocks (rblks_get h0 h1 (by omega))
theorem RefX.ldAt : ldInt .i64 m ⟨g.q, x.toNat * 5 + 3, some 5⟩ = some (g.A x) := ldInt_of h.blocks (rblks_get h0 h1 (by omega))
theorem RefX.ldAtErase : ldBool m ⟨g.q, x.toNat * 5 + 4, some 5⟩ = some (σ.b x).atErase := ldBool_of h.blocks (rblks_get h0 h1 (by omega))
theorem RefX.stB {y : Nat} (hy : y < 5) {v : Value} {L' : Nat} {a' : Int} {β' : BlockS} (e : (rblk (g.L x) (g.A x) (σ.b x)).set y v = rblk L' a' β') :
    st m ⟨g.q, x.toNat * 5 + y, some 5⟩ v = some (wr m g.q (rblks { g with L := upd g.L x L', A := upd g.A x a' } (σ.updB x β'))) := by
  rw [st_wr h.blocks (by rw [rblks_len]; omega), rblks_set h0 h1 hy e]
end
section
variable {p k : Int} (hp : isAt p k)
include hp
theorem RefX.ldNow : ldSl m ⟨g.L (p / 8), (p % 8 * 4 + k).toNat * 4, some 4⟩ = some ⟨rowA (some (g.N (p / 8) (p % 8 * 4 + k))), 64, 64⟩ := by
  obtain ⟨h0, h1, h2, h3⟩ := hp
  exact ldSl_of (h.ls (p / 8) (by omega) (by omega)).1 (rchs_get (y := 0) (by omega) (by omega) (by omega))
theorem RefX.ldTru : ldSl m ⟨g.L (p / 8), (p % 8 * 4 + k).toNat * 4 + 1, some 4⟩ = some ⟨rowA (some (g.T (p / 8) (p % 8 * 4 + k))), 64, 64⟩ := by
  obtain ⟨h0, h1, h2, h3⟩ := hp
  exact ldSl_of (h.ls (p / 8) (by omega) (by omega)).1 (rchs_get (by omega) (by omega) (by omega))
theorem RefX.ldIs : ldBool m ⟨g.L (p / 8), (p % 8 * 4 + k).toNat * 4 + 2, some 4⟩ = some (σ.at_ p k).is := by
  obtain ⟨h0, h1, h2, h3⟩ := hp
  exact ldBool_of (h.ls (p / 8) (by omega) (by omega)).1 (rchs_get (by omega) (by omega) (by omega))
theorem RefX.ldWorst : ldInt .i64 m ⟨g.L (p / 8), (p % 8 * 4 + k).toNat * 4 + 3, some 4⟩ = some (σ.at_ p k).worst := by
  obtain ⟨h0, h1, h2, h3⟩ := hp
  exact ldInt_of (h.ls (p / 8) (by omega) (by omega)).1 (rchs_get (by omega) (by omega) (by omega))
theorem RefX.now_ : m[(g.N (p / 8) (p % 8 * 4 + k)).1]? = some (.live (arr .u8 64 (σ.at_ p k).now)) := by
  obtain ⟨h0, h1, h2, h3⟩ := hp
  exact (h.ns (p / 8) (p % 8 * 4 + k) (by omega) (by omega) (by omega) (by omega)).1
theorem RefX.tru_ : m[(g.T (p / 8) (p % 8 * 4 + k)).1]? = some (.live (arr .u8 64 (σ.at_ p k).tru)) := by
  obtain ⟨h0, h1, h2, h3⟩ := hp
  exact (h.ts (p / 8) (p % 8 * 4 + k) (by omega) (by omega) (by omega) (by omega)).1
end
end
theorem rowA_eq (x : Nat × Bool) : rowA (some x) = some ⟨x.1, 0, if x.2 then some 1 else none⟩ := by obtain ⟨D, a⟩ := x; cases a <;> rfl
end Go.Proofs.Ytchonnaoojpdoaa

/- The document's chip: what is asked of it, steps, harm. -/
set_option linter.unusedVariables false
set_option linter.unusedSectionVars false
set_option linter.unusedSimpArgs false
namespace Go.Proofs.Ytchonnaoojpdoaa
open Go.Mx

/-- bytes, told by whole numbers -/
def Byt (f : Int → Int) : Prop := ∃ w : Nat → GF, ∀ i : Int, 0 ≤ i → f i = byI w i
theorem Byt.bys {f : Int → Int} (h : Byt f) (n : Nat) : ∃ w : Nat → GF, arr .u8 n f = bys n w ∧ ∀ i : Nat, f i = ((w i).v : Int) := by
  obtain ⟨w, hw⟩ := h
  exact ⟨w, arr_congr fun i h0 _ => hw i h0, fun i => by rw [hw _ (by omega)]; rfl⟩
theorem Byt.const {v : Int} (h0 : 0 ≤ v) (h1 : v < 256) : Byt fun _ => v := ⟨fun _ => GF.of v.toNat, fun i _ => by show v = _; unfold byI; rw [GF.v_of (by omega)]; omega⟩
theorem Byt.upd {f : Int → Int} (h : Byt f) {x v : Int} (hx : 0 ≤ x) (h0 : 0 ≤ v) (h1 : v < 256) : Byt (upd f x v) := by
  obtain ⟨w, hw⟩ := h
  refine ⟨put w x.toNat (GF.of v.toNat), fun i hi => ?_⟩
  unfold byI put Mx.upd
  by_cases he : i = x
  · subst he; rw [if_pos rfl, if_pos rfl, GF.v_of (by omega)]; omega
  · rw [if_neg he, if_neg (by omega), hw i hi]; rfl
theorem Byt.ofW (w : Nat → GF) : Byt (byI w) := ⟨w, fun _ _ => rfl⟩
theorem xor_byte (a b : Int) : 0 ≤ bitI .xor .u8 a b ∧ bitI .xor .u8 a b < 256 := by
  unfold bitI
  simp only [IntKind.wrap, IntKind.bits, IntKind.signed, Bool.false_and, Bool.false_eq_true, if_false]
  omega

/-- a chip with which so much was done at most -/
structure Wf (n : Nat) (σ : ChipS) : Prop where
  steps : 0 ≤ σ.steps ∧ σ.steps ≤ n
  bud : 0 ≤ σ.budget ∧ σ.budget < 9223372036854775808
  rd : ∀ x, 0 ≤ (σ.b x).reads ∧ (σ.b x).reads ≤ n
  bf : ∀ x, 0 ≤ (σ.b x).before ∧ (σ.b x).before < 9223372036854775808
  by_ : ∀ x j, Byt ((σ.b x).ch j).now ∧ Byt ((σ.b x).ch j).tru
  ws : ∀ x j, ((σ.b x).ch j).damage ≤ ((σ.b x).ch j).worst ∧ ((σ.b x).ch j).worst ≤ 64

/-- labels stay, new ones are of new objects, and but for what is labelled nothing changes -/
structure Lx (m m' : Mem) (lab lab' : Nat → Option Lab) : Prop where
  ch : Ch (fun p => lab p ≠ none) m m'
  same : ∀ p, lab p ≠ none → lab' p = lab p
  new : ∀ p, lab' p ≠ none → lab p ≠ none ∨ m.length ≤ p
theorem Lx.refl (m : Mem) (lab : Nat → Option Lab) : Lx m m lab lab := ⟨.refl _ _, fun _ _ => rfl, fun _ h => .inl h⟩
theorem Lx.of {m m' : Mem} {lab : Nat → Option Lab} (h : Ch (fun p => lab p ≠ none) m m') : Lx m m' lab lab := ⟨h, fun _ _ => rfl, fun _ h => .inl h⟩
theorem Lx.trans {m m' m'' : Mem} {lab lab' lab'' : Nat → Option Lab} (h : Lx m m' lab lab') (h' : Lx m' m'' lab' lab'') : Lx m m'' lab lab'' :=
  ⟨h.ch.more h'.ch fun p hp hl => by rcases h.new p hl with h1 | h1; · exact h1
                                     · omega,
   fun p hp => by rw [h'.same p (by rw [h.same p hp]; exact hp), h.same p hp],
   fun p hp => by rcases h'.new p hp with h1 | h1
                  · exact h.new p h1
                  · right; have := h.ch.len; omega⟩

end Go.Proofs.Ytchonnaoojpdoaa

/- The document's chip: reads, writes, turned bits. -/
set_option linter.unusedVariables false
set_option linter.unusedSectionVars false
set_option linter.unusedSimpArgs false
namespace Go.Proofs.Ytchonnaoojpdoaa
open Go.Mx

/-! a chunk's cells -/
section
variable {f : Int → List Value} (hf : ∀ i, (f i).length = 4) {J : Int} (j0 : 0 ≤ J) (j1 : J < 32) {c4 : List Value} (h4 : c4.length = 4)
include hf j0 j1 h4
theorem lc_get {y : Nat} (hy : y < 4) : (farr 32 (upd f J c4))[J.toNat * 4 + y]? = c4[y]? := by
  have := farr_get (n := 32) (z := 4) (f := upd f J c4) (fun i _ _ => by unfold upd; split; exact h4; exact hf i) (i := J.toNat) (by omega) hy
  rw [Int.toNat_of_nonneg j0, upd_same] at this; exact this
theorem lc_set {y : Nat} (hy : y < 4) (v : Value) : (farr 32 (upd f J c4)).set (J.toNat * 4 + y) v = farr 32 (upd f J (c4.set y v)) := by
  have := farr_set (n := 32) (z := 4) (f := upd f J c4) (fun i _ _ => by unfold upd; split; exact h4; exact hf i) (i := J.toNat) (by omega) hy v
  rw [Int.toNat_of_nonneg j0, upd_same, upd_upd] at this; exact this
theorem lc_len : (farr 32 (upd f J c4)).length = 128 := farr_len (z := 4) fun i _ _ => by unfold upd; split; exact h4; exact hf i
theorem lc_st {M : Mem} {d y : Nat} (hM : M[d]? = some (.live (farr 32 (upd f J c4)))) (hy : y < 4) (v : Value) : st M ⟨d, J.toNat * 4 + y, some 4⟩ v = some (wr M d (farr 32 (upd f J (c4.set y v)))) := by
  rw [st_wr hM (by rw [lc_len hf j0 j1 h4]; omega), lc_set hf j0 j1 h4 hy]
end

end Go.Proofs.Ytchonnaoojpdoaa

/- The document's chip: bits turned, blocks erased, a new one. -/
set_option linter.unusedVariables false
set_option linter.unusedSectionVars false
set_option linter.unusedSimpArgs false
namespace Go.Proofs.Ytchonnaoojpdoaa
open Go.Mx

theorem blank_bys : arr .u8 64 (fun _ => 255) = bys 64 fun _ => GF.of 255 := arr_congr fun i _ _ => by unfold byI; rw [GF.v_of (by omega)]; rfl
theorem refBlank_is (k : Nat) (hk : 64 < k) (m : Mem) : patinaref05_blank k m = some (⟨some ⟨m.length, 0, none⟩, 64, 64⟩, m ++ [.live (arr .u8 64 fun _ => 255)]) := by
  have key : Ok (patinaref05_blank k m) fun r => r = (⟨some ⟨m.length, 0, none⟩, 64, 64⟩, m ++ [.live (arr .u8 64 fun _ => 255)]) := by
    unfold patinaref05_blank
    have t64 : Int.toNat 64 = 64 := rfl
    simp (disch := omega) only [Option.bind_some, Option.map_some, cond_true, cond_false, wrap_i64, tmod_pos, tdiv_pos, inRange_yes, inUpto_yes, isZero_no, decide_eq_true, decide_eq_false, Bool.not_true, Bool.not_false, Int.toNat_natCast, Nat.mul_one, beqI_yes, beqI_no, bneI_yes, bneI_no, isNil_nil, isNil_iface, wr_wr, Option.isNone_none, Option.isNone_some, plus, Nat.zero_add, Nat.add_zero, t64, repl_int (k := .u8)]
    refine patinaref05_blank_l0_rule k _ (fun r x1a x1n x1c x2 M => (some ⟨m.length, 0, none⟩ : Option Addr) = x1a ∧ 64 = x1n ∧ 64 = x1c ∧ ∃ j : Nat, x2 = j ∧ j + r = 64 ∧ M = m ++ [.live (arr .u8 64 fun i => if i < j then 255 else 0)]) ?_ k 64 _ _ _ _ _ hk
      ⟨rfl, rfl, rfl, 0, rfl, rfl, by rw [arr_congr (f := fun i => if i < ((0 : Nat) : Int) then 255 else 0) (g := fun _ => 0) fun i h0 _ => if_neg (by omega)]⟩
    rintro r nx _ _ _ _ _ ⟨rfl, rfl, rfl, j, rfl, hr, rfl⟩ hnx
    unfold patinaref05_blank_l0_b
    by_cases hj : (j : Int) < 64
    · have e2 := arr_stn (sp := none) (v := 255) (get_last (m := m) (o := .live (arr .u8 64 fun i => if i < (j : Int) then 255 else 0)) rfl) (i := j) (by omega)
      rw [wr_last rfl] at e2
      have i1 : inRange (j : Int) 64 = true := inRange_yes (by omega) (by omega)
      simp (disch := omega) only [Option.bind_some, Option.map_some, cond_true, cond_false, wrap_i64, tmod_pos, tdiv_pos, inRange_yes, inUpto_yes, isZero_no, decide_eq_true, decide_eq_false, Bool.not_true, Bool.not_false, Int.toNat_natCast, Nat.mul_one, beqI_yes, beqI_no, bneI_yes, bneI_no, isNil_nil, isNil_iface, wr_wr, Option.isNone_none, Option.isNone_some, plus, Nat.zero_add, Nat.add_zero, i1, e2]
      refine hnx (r - 1) _ _ _ _ _ (by omega) ⟨rfl, rfl, rfl, j + 1, by omega, by omega, ?_⟩
      congr 3
      refine arr_congr fun i h0 h1 => ?_
      unfold upd
      by_cases h2 : i = (j : Int)
      · rw [if_pos h2, if_pos (by omega)]
      · rw [if_neg h2]
        show (if i < (j : Int) then (255 : Int) else 0) = _
        by_cases h3 : i < (j : Int)
        · rw [if_pos h3, if_pos (by omega)]
        · rw [if_neg h3, if_neg (by omega)]
    · obtain rfl : j = 64 := by omega
      simp (disch := omega) only [Option.bind_some, Option.map_some, cond_true, cond_false, wrap_i64, tmod_pos, tdiv_pos, inRange_yes, inUpto_yes, isZero_no, decide_eq_true, decide_eq_false, Bool.not_true, Bool.not_false, Int.toNat_natCast, Nat.mul_one, beqI_yes, beqI_no, bneI_yes, bneI_no, isNil_nil, isNil_iface, wr_wr, Option.isNone_none, Option.isNone_some, plus, Nat.zero_add, Nat.add_zero]
      refine .some ?_
      rw [arr_congr (f := fun i => if i < ((64 : Nat) : Int) then 255 else 0) (g := fun _ => 255) fun i _ h1 => if_pos (by omega)]
  obtain ⟨r, h1, rfl⟩ := key
  exact h1

/-- the chunks of an erased block -/
structure Cks (m0 m : Mem) (n : Nat) (a : Option Addr) (lb : Nat → Option CL) (N T : Int → Nat × Bool) : Prop where
  gr : Gr m0 m
  row : (a = none ∧ n = 0) ∨ ∃ L, a = some ⟨L, 0, some 4⟩ ∧ m0.length ≤ L ∧ m[L]? = some (.live (farr n fun j => rch (N j) (T j) blank)) ∧ lb L = some .l
  n_ : ∀ j : Int, 0 ≤ j → j < n → m[(N j).1]? = some (.live (arr .u8 64 fun _ => 255)) ∧ lb (N j).1 = some (.n j)
  t_ : ∀ j : Int, 0 ≤ j → j < n → m[(T j).1]? = some (.live (arr .u8 64 fun _ => 255)) ∧ lb (T j).1 = some (.t j)
  new : ∀ p, lb p ≠ none → m0.length ≤ p ∧ p < m.length
theorem appM_any {z y : Nat} {m : Mem} {a : Option Addr} {n l : Nat} {old new : List Value} (h : (a = none ∧ n = 0 ∧ old = []) ∨ ∃ b, a = some ⟨b, 0, some z⟩ ∧ m[b]? = some (.live old) ∧ old.length = n * z) (hl : 0 < l) (h1 : (n + l) * y ≤ most) (h2 : n + l ≤ most) :
    ∃ m', appM z y m a n n l new = some (⟨some ⟨m.length, 0, some z⟩, n + l, n + l⟩, m') ∧ m'.length = m.length + 1 ∧ m'[m.length]? = some (.live (old ++ new)) ∧ (∀ p, p < m.length → (∀ b, a = some ⟨b, 0, some z⟩ → p ≠ b) → m'[p]? = m[p]?) ∧ ∀ m0, Gr m0 m → (∀ b, a = some ⟨b, 0, some z⟩ → m0.length ≤ b) → Gr m0 m' := by
  rcases h with ⟨rfl, rfl, rfl⟩ | ⟨b, rfl, h3, h4⟩
  · refine ⟨m ++ [.live new], ?_, by simp, by rw [get_last rfl]; rfl, fun p hp _ => get_app_lt hp, fun m0 h0 _ => h0.trans (Gr.app _ _)⟩
    rw [Nat.zero_add] at h1 h2 ⊢; exact appM_first hl h1 h2
  · refine ⟨m.set b (.old old m.length) ++ [.live (old ++ new)], appM_grow h3 h4 hl h1 h2, by simp, get_last (by simp), fun p hp hb => ?_, fun m0 h0 hb => (h0.kill (hb b rfl) _).trans (Gr.app _ _)⟩
    rw [get_app_lt (by simpa using hp), get_set_ne (fun h => hb b rfl h.symm)]
theorem refChunks_ok (k : Nat) (hk : 64 < k) (m0 : Mem) : Ok (patinaref05_chunks k m0) fun r => ∃ a lb N T, r.1 = ⟨a, 32, 32⟩ ∧ Cks m0 r.2 32 a lb N T := by
  unfold patinaref05_chunks
  refine patinaref05_chunks_l0_rule k _ (fun r x1a x1n x1c x2 M => ∃ (j : Nat) (lb : Nat → Option CL) (N T : Int → Nat × Bool), x2 = j ∧ j + r = 32 ∧ j = x1n ∧ j = x1c ∧ Cks m0 M j x1a lb N T) ?_ k 32 _ _ _ _ _ (by omega)
    ⟨0, fun _ => none, fun _ => (0, false), fun _ => (0, false), rfl, rfl, rfl, rfl, ⟨.refl _, .inl ⟨rfl, rfl⟩, fun j h0 h1 => by omega, fun j h0 h1 => by omega, fun p hp => absurd rfl hp⟩⟩
  rintro r nx a _ _ _ M ⟨j, lb, N, T, rfl, hr, rfl, rfl, hC⟩ hnx
  unfold patinaref05_chunks_l0_b
  by_cases hj : (j : Int) < 32
  · have b1 := refBlank_is k hk M
    have b2 := refBlank_is k hk (M ++ [.live (arr .u8 64 fun _ => 255)])
    have l1 : (M ++ [MObj.live (arr .u8 64 fun _ => 255)]).length = M.length + 1 := by simp
    have l2 : (M ++ [MObj.live (arr .u8 64 fun _ => 255)] ++ [MObj.live (arr .u8 64 fun _ => 255)]).length = M.length + 2 := by simp
    rw [l1] at b2
    let c4 : List Value := rch (M.length, false) (M.length + 1, false) blank
    have hc4 : ([Value.slice (some ⟨M.length, 0, none⟩) 64 64, .slice (some ⟨M.length + 1, 0, none⟩) 64 64, .bool false, .int .i64 0] : List Value) = c4 := rfl
    have r4 : rdSl (M ++ [MObj.live (arr .u8 64 fun _ => 255)] ++ [MObj.live (arr .u8 64 fun _ => 255)] ++ [.live c4]) (some ⟨M.length + 2, 0, none⟩) 1 4 = some c4 := rdSl_all (get_last (by simp)) rfl
    have l3 : (M ++ [MObj.live (arr .u8 64 fun _ => 255)] ++ [MObj.live (arr .u8 64 fun _ => 255)] ++ [MObj.live c4]).length = M.length + 3 := by simp
    have hgl : Gr M (M ++ [MObj.live (arr .u8 64 fun _ => 255)] ++ [MObj.live (arr .u8 64 fun _ => 255)] ++ [.live c4]) := ((Gr.app _ _).trans (Gr.app _ _)).trans (Gr.app _ _)
    have g0 : (M ++ [MObj.live (arr .u8 64 fun _ => 255)] ++ [MObj.live (arr .u8 64 fun _ => 255)] ++ [.live c4])[M.length]? = some (.live (arr .u8 64 fun _ => 255)) := get_grow (get_grow (get_last rfl))
    have g1 : (M ++ [MObj.live (arr .u8 64 fun _ => 255)] ++ [MObj.live (arr .u8 64 fun _ => 255)] ++ [.live c4])[M.length + 1]? = some (.live (arr .u8 64 fun _ => 255)) := get_grow (get_last l1)
    simp (disch := omega) only [Option.bind_some, Option.map_some, cond_true, cond_false, wrap_i64, tmod_pos, tdiv_pos, inRange_yes, inUpto_yes, isZero_no, decide_eq_true, decide_eq_false, Bool.not_true, Bool.not_false, Int.toNat_natCast, Nat.mul_one, beqI_yes, beqI_no, bneI_yes, bneI_no, isNil_nil, isNil_iface, wr_wr, Option.isNone_none, Option.isNone_some, plus, Nat.zero_add, Nat.add_zero, decide_eq_true hj, b1, b2, hc4, l2]
    generalize M ++ [MObj.live (arr .u8 64 fun _ => 255)] ++ [MObj.live (arr .u8 64 fun _ => 255)] ++ [.live c4] = M3 at *
    have hlen : (farr j fun j => rch (N j) (T j) blank).length = j * 4 := farr_len (z := 4) fun _ _ _ => rfl
    have hml := hC.gr.len
    obtain ⟨m', a1, a2, a3, a4, a5⟩ := appM_any (z := 4) (y := 64) (m := M3) (a := a) (n := j) (l := 1) (old := farr j fun j => rch (N j) (T j) blank) (new := c4) (by
      rcases hC.row with ⟨h1, h2⟩ | ⟨L, h1, h2, h3, _⟩
      · refine .inl ⟨h1, h2, ?_⟩
        subst h2; rfl
      · exact .inr ⟨L, h1, hgl.get h3, hlen⟩) (by omega) (by unfold most; omega) (by unfold most; omega)
    have rowne : ∀ b, a = some ⟨b, 0, some 4⟩ → m0.length ≤ b ∧ b < M.length ∧ lb b = some .l := by
      rintro b rfl
      rcases hC.row with ⟨h1, _⟩ | ⟨L, h1, h2, h3, h4⟩
      · cases h1
      · simp only [Option.some.injEq, Addr.mk.injEq, and_true] at h1
        subst h1; exact ⟨h2, get_lt h3, h4⟩
    have a5 := a5 m0 (hC.gr.trans hgl) fun b hb => (rowne b hb).1
    rw [l3] at a1 a2 a3
    simp (disch := omega) only [Option.bind_some, Option.map_some, cond_true, cond_false, wrap_i64, tmod_pos, tdiv_pos, inRange_yes, inUpto_yes, isZero_no, decide_eq_true, decide_eq_false, Bool.not_true, Bool.not_false, Int.toNat_natCast, Nat.mul_one, beqI_yes, beqI_no, bneI_yes, bneI_no, isNil_nil, isNil_iface, wr_wr, Option.isNone_none, Option.isNone_some, plus, Nat.zero_add, Nat.add_zero, r4, a1]
    let N' : Int → Nat × Bool := upd N j (M.length, false)
    let T' : Int → Nat × Bool := upd T j (M.length + 1, false)
    let lb' : Nat → Option CL := fun p => if p = M.length then some (.n j) else if p = M.length + 1 then some (.t j) else if p = M.length + 3 then some .l else lb p
    have hlb : ∀ p, p < M.length → lb' p = lb p := fun p hp => by show (if _ then _ else _) = _; rw [if_neg (by omega), if_neg (by omega), if_neg (by omega)]
    have keep : ∀ p o, M[p]? = some o → (∀ b, a = some ⟨b, 0, some 4⟩ → p ≠ b) → m'[p]? = some o := fun p o hp hb => by
      rw [a4 p (by have := get_lt hp; omega) hb]; exact hgl.get hp
    refine hnx (r - 1) _ _ _ ((j : Int) + 1) _ (by omega) ⟨j + 1, lb', N', T', by omega, by omega, rfl, rfl, ⟨a5, .inr ⟨M.length + 3, rfl, by omega, ?_, ?_⟩, fun i h0 h1 => ?_, fun i h0 h1 => ?_, fun p hp => ?_⟩⟩
    · rw [a3, farr_succ]
      congr 3
      · refine farr_congr fun i _ h1 => ?_
        show _ = rch (upd N j _ i) (upd T j _ i) blank
        rw [upd_ne (by omega), upd_ne (by omega)]
      · show _ = rch (upd N j _ j) (upd T j _ j) blank
        rw [upd_same, upd_same]
    · show (if _ then _ else _) = _
      rw [if_neg (by omega), if_neg (by omega), if_pos rfl]
    · by_cases hi : i = (j : Int)
      · subst hi
        show m'[(upd N j _ j).1]? = _ ∧ lb' (upd N j _ j).1 = _
        rw [upd_same]
        refine ⟨by rw [a4 M.length (by omega) fun b hb => by have := (rowne b hb).2.1; omega]; exact g0, ?_⟩
        show (if _ then _ else _) = _
        rw [if_pos rfl]
      · have := hC.n_ i h0 (by omega)
        show m'[(upd N j _ i).1]? = _ ∧ lb' (upd N j _ i).1 = _
        rw [upd_ne hi]
        have q1 := get_lt this.1
        exact ⟨keep _ _ this.1 (fun b hb he => by have h2 := this.2; rw [he, (rowne b hb).2.2] at h2; cases h2), by rw [hlb _ q1]; exact this.2⟩
    · by_cases hi : i = (j : Int)
      · subst hi
        show m'[(upd T j _ j).1]? = _ ∧ lb' (upd T j _ j).1 = _
        rw [upd_same]
        refine ⟨by rw [a4 (M.length + 1) (by omega) fun b hb => by have := (rowne b hb).2.1; omega]; exact g1, ?_⟩
        show (if _ then _ else _) = _
        rw [if_neg (by omega), if_pos rfl]
      · have := hC.t_ i h0 (by omega)
        show m'[(upd T j _ i).1]? = _ ∧ lb' (upd T j _ i).1 = _
        rw [upd_ne hi]
        have q1 := get_lt this.1
        exact ⟨keep _ _ this.1 (fun b hb he => by have h2 := this.2; rw [he, (rowne b hb).2.2] at h2; cases h2), by rw [hlb _ q1]; exact this.2⟩
    · by_cases q0 : p < M.length
      · rw [hlb p q0] at hp
        have := hC.new p hp
        omega
      · refine ⟨by omega, ?_⟩
        rw [a2]
        by_cases q1 : p = M.length
        · omega
        · by_cases q2 : p = M.length + 1
          · omega
          · by_cases q3 : p = M.length + 3
            · omega
            · have : lb' p = lb p := by show (if _ then _ else _) = _; rw [if_neg q1, if_neg q2, if_neg q3]
              rw [this] at hp
              have := hC.new p hp
              omega
  · obtain rfl : j = 32 := by omega
    simp (disch := omega) only [Option.bind_some, Option.map_some, cond_true, cond_false, wrap_i64, tmod_pos, tdiv_pos, inRange_yes, inUpto_yes, isZero_no, decide_eq_true, decide_eq_false, Bool.not_true, Bool.not_false, Int.toNat_natCast, Nat.mul_one, beqI_yes, beqI_no, bneI_yes, bneI_no, isNil_nil, isNil_iface, wr_wr, Option.isNone_none, Option.isNone_some, plus, Nat.zero_add, Nat.add_zero]
    exact .some ⟨a, lb, N, T, rfl, hC⟩

end Go.Proofs.Ytchonnaoojpdoaa

/- Tags: numbers as bytes, a tag's body, a body's tag. -/
set_option linter.unusedVariables false
set_option linter.unusedSectionVars false
set_option linter.unusedSimpArgs false
namespace Go.Proofs.Ytchonnaoojpdoaa
open Go.Mx

def dig (v i : Nat) : GF := GF.of (v / 256 ^ i % 256)
theorem dig_v (v i : Nat) : (dig v i).v = v / 256 ^ i % 256 := GF.v_of (Nat.mod_lt _ (by omega))
theorem shr8 (x : Nat) : shrI .u64 (x : Int) 8 = ((x / 256 : Nat) : Int) := by
  unfold shrI
  have : min (Int.toNat 8) (IntKind.bits .u64) = 8 := rfl
  rw [this]
  show ((x : Int).fdiv 256) = _
  rw [Int.fdiv_eq_ediv_of_nonneg _ (by omega)]; omega
theorem wrapN8 (x : Nat) : IntKind.wrap .u8 (x : Int) = ((x % 256 : Nat) : Int) := by
  unfold IntKind.wrap
  simp only [IntKind.bits, IntKind.signed, Bool.false_and, Bool.false_eq_true, if_false]
  omega
theorem put_is (k : Nat) (hk : 10 < k) (m : Mem) (v n : Nat) (h1 : 1 ≤ n) (h8 : n ≤ 8) (hv : v < 256 ^ n) : wire_Put k (v : Int) (n : Int) m = some (⟨some ⟨m.length, 0, none⟩, n, n⟩, .nilIface, m ++ [.live (bys n (dig v))]) := by
  have key : Ok (wire_Put k (v : Int) (n : Int) m) fun r => r = (⟨some ⟨m.length, 0, none⟩, n, n⟩, .nilIface, m ++ [.live (bys n (dig v))]) := by
    unfold wire_Put
    have hb : (tt 5).bytes = 1 := rfl
    have hm : ((most : Nat) : Int) = 140737488355328 := rfl
    have c1 : decide ((n : Int) < 1) = false := decide_eq_false (by omega)
    have c2 : decide ((n : Int) > 8) = false := decide_eq_false (by omega)
    have c3 : decide (0 ≤ (n : Int)) = true := decide_eq_true (by omega)
    have c4 : decide ((n : Int) ≤ n) = true := decide_eq_true (by omega)
    have c5 : decide ((n : Int) * ((1 : Nat) : Int) ≤ 140737488355328) = true := decide_eq_true (by omega)
    have c6 : decide ((n : Int) ≤ 140737488355328) = true := decide_eq_true (by omega)
    rw [c1, c2, hb, hm, c3, c4, c5, c6]
    simp only [cond_false, cond_true, Bool.and_self, Int.toNat_natCast]
    rw [bys_zero]
    refine wire_Put_l0_rule k _ (fun r x0 x6a x6n x6c x18 x19 m' => (some ⟨m.length, 0, none⟩ : Option Addr) = x6a ∧ n = x6n ∧ n = x6c ∧ (n : Int) = x18 ∧ ∃ i : Nat, x19 = i ∧ i + r = n ∧ x0 = ((v / 256 ^ i : Nat) : Int) ∧ m' = m ++ [.live (bys n fun j => if j < i then dig v j else 0)]) ?_ k n _ _ _ _ _ _ _ (by omega)
      ⟨rfl, rfl, rfl, rfl, 0, rfl, by omega, by simp, by rw [bys_congr (u := fun j => if j < 0 then dig v j else 0) (w := fun _ => 0) fun i _ => if_neg (by omega)]⟩
    rintro r nx _ _ _ _ _ _ _ ⟨rfl, rfl, rfl, rfl, i, rfl, hr, rfl, rfl⟩ hnx
    unfold wire_Put_l0_b
    by_cases hi : (i : Int) < n
    · have i1 : inRange (i : Int) n = true := inRange_yes (by omega) hi
      have ti : Int.toNat (i : Int) = i := Int.toNat_natCast i
      have e1 : Value.int .u8 (IntKind.wrap .u8 ((v / 256 ^ i : Nat) : Int)) = .int .u8 ((dig v i).v : Int) := by rw [wrapN8, dig_v]
      have s1 := bys_st (sp := none) (get_last (m := m) (o := .live (bys n fun j => if j < i then dig v j else 0)) rfl) (i := i) (by omega) (dig v i)
      rw [wr_last rfl] at s1
      simp (disch := omega) only [Option.bind_some, Option.map_some, cond_true, cond_false, wrap_i64, tmod_pos, tdiv_pos, inRange_yes, inUpto_yes, isZero_no, decide_eq_true, decide_eq_false, Bool.not_true, Bool.not_false, Int.toNat_natCast, Nat.mul_one, beqI_yes, beqI_no, bneI_yes, bneI_no, isNil_nil, isNil_iface, wr_wr, Option.isNone_none, Option.isNone_some, plus, Nat.zero_add, Nat.add_zero, decide_eq_true hi, i1, ti, e1, s1]
      refine hnx (r - 1) _ _ _ _ _ _ _ (by omega) ⟨rfl, rfl, rfl, rfl, i + 1, by omega, by omega, ?_, ?_⟩
      · rw [shr8, Nat.pow_succ, Nat.div_div_eq_div_mul]
      · congr 3
        refine bys_congr fun j hj => ?_
        unfold put
        split
        · rename_i h; subst h; rw [if_pos (by omega)]
        · show (if j < i then dig v j else 0) = _
          by_cases h2 : j < i
          · rw [if_pos h2, if_pos (by omega)]
          · rw [if_neg h2, if_neg (by omega)]
    · obtain rfl : i = n := by omega
      have h0 : v / 256 ^ i = 0 := Nat.div_eq_of_lt hv
      have b0 : (((0 : Nat) : Int) != 0) = false := rfl
      simp only [decide_eq_false hi, cond_false, h0, b0]
      refine .some ?_
      rw [bys_congr (u := fun j => if j < i then dig v j else 0) (w := dig v) fun j hj => if_pos hj]
  obtain ⟨r, h2, rfl⟩ := key
  exact h2

/-! ## a tag -/
structure TagT where
  place : Int
  of_ : Int
  seq : Int
  copy : Int
  lost : Bool
def tagC (t : TagT) : List Value := [.int .i64 t.place, .int .i64 t.of_, .int .i64 t.seq, .int .i64 t.copy, .bool t.lost]
def TagT.ok (t : TagT) : Prop := 0 ≤ t.place ∧ t.place < 96 ∧ 0 ≤ t.of_ ∧ t.of_ ≤ 24 ∧ 1 ≤ t.seq ∧ t.seq ≤ 1099511627775 ∧ 0 ≤ t.copy ∧ t.copy ≤ 255 ∧ (t.of_ = 24 → t.lost = false) ∧ (t.of_ ≠ 24 → t.place % 8 < 6)
def ztag : TagT := ⟨0, 0, 0, 0, false⟩
def tagW (t : TagT) (i : Nat) : GF :=
  if i < 2 then dig t.place.toNat i else if i < 3 then dig t.of_.toNat (i - 2) else if i < 8 then dig t.seq.toNat (i - 3) else if i < 9 then dig t.copy.toNat (i - 8) else if i < 10 then dig (if t.lost then 1 else 0) (i - 9) else 0
open Classical in
theorem check_is (k : Nat) (t : TagT) (m : Mem) : tag_Check k (tagC t) m = some (if t.ok then .nilIface else errC 1, m ++ [.live (tagC t)]) := by
  unfold tag_Check
  have L5 : Nat.beq (tagC t).length 5 = true := rfl
  have h := get_last (m := m) (o := .live (tagC t)) rfl
  have l0 : ldInt .i64 (m ++ [.live (tagC t)]) ⟨m.length, 0, none⟩ = some t.place := ldInt_of h rfl
  have l1 : ldInt .i64 (m ++ [.live (tagC t)]) ⟨m.length, 1, none⟩ = some t.of_ := ldInt_of h rfl
  have l2 : ldInt .i64 (m ++ [.live (tagC t)]) ⟨m.length, 2, none⟩ = some t.seq := ldInt_of h rfl
  have l3 : ldInt .i64 (m ++ [.live (tagC t)]) ⟨m.length, 3, none⟩ = some t.copy := ldInt_of h rfl
  have l4 : ldBool (m ++ [.live (tagC t)]) ⟨m.length, 4, none⟩ = some t.lost := ldBool_of h rfl
  generalize m ++ [.live (tagC t)] = M at *
  simp only [L5, cond_true, plus, Nat.zero_add, l0, l1, l2, l3, l4, Option.bind_some]
  have bad : ∀ (P : Prop), P → (P → ¬ t.ok) → some ((Value.iface ty_api_Code (.int .i64 1)), M) = some (if t.ok then Value.nilIface else errC 1, M) := fun P hP hn => by rw [if_neg (hn hP)]; rfl
  by_cases h0 : t.place < 0
  · rw [decide_eq_true h0]; exact bad _ h0 fun h1 h2 => by have := h2.1; omega
  rw [decide_eq_false h0, cond_false]
  by_cases h1 : t.place ≥ 96
  · rw [decide_eq_true h1]; exact bad _ h1 fun h1 h2 => by have := h2.2.1; omega
  rw [decide_eq_false h1, cond_false]
  by_cases h2 : t.of_ < 0
  · rw [decide_eq_true h2]; exact bad _ h2 fun h1 h2 => by have := h2.2.2.1; omega
  rw [decide_eq_false h2, cond_false]
  by_cases h3 : t.of_ > 24
  · rw [decide_eq_true h3]; exact bad _ h3 fun h1 h2 => by have := h2.2.2.2.1; omega
  rw [decide_eq_false h3, cond_false]
  by_cases h4 : t.seq < 1
  · rw [decide_eq_true h4]; exact bad _ h4 fun h1 h2 => by have := h2.2.2.2.2.1; omega
  rw [decide_eq_false h4, cond_false]
  by_cases h5 : t.seq > 1099511627775
  · rw [decide_eq_true h5]; exact bad _ h5 fun h1 h2 => by have := h2.2.2.2.2.2.1; omega
  rw [decide_eq_false h5, cond_false]
  by_cases h6 : t.copy < 0
  · rw [decide_eq_true h6]; exact bad _ h6 fun h1 h2 => by have := h2.2.2.2.2.2.2.1; omega
  rw [decide_eq_false h6, cond_false]
  by_cases h7 : t.copy > 255
  · rw [decide_eq_true h7]; exact bad _ h7 fun h1 h2 => by have := h2.2.2.2.2.2.2.2.1; omega
  rw [decide_eq_false h7, cond_false]
  by_cases h8 : t.of_ = 24
  · rw [h8]
    have b1 : ((24 : Int) == 24) = true := rfl
    have b2 : ((24 : Int) != 24) = false := rfl
    rw [b1, b2, cond_true, cond_false]
    cases hl : t.lost with
    | true => rw [cond_true]; exact bad _ hl fun h1 h2 => by have := h2.2.2.2.2.2.2.2.2.1 h8; rw [h1] at this; cases this
    | false =>
      rw [cond_false]
      unfold tag_Check_j1
      rw [if_pos ⟨by omega, by omega, by omega, by omega, by omega, by omega, by omega, by omega, fun _ => hl, fun h => absurd h8 h⟩]
  · have b1 : (t.of_ == 24) = false := by rw [beq_eq_false_iff_ne]; exact h8
    have b2 : (t.of_ != 24) = true := by unfold bne; rw [b1]; rfl
    rw [b1, b2, cond_true, cond_false, tmod_pos (by omega)]
    by_cases h9 : t.place % 8 ≥ 6
    · rw [decide_eq_true h9]; exact bad _ h9 fun h1 h2 => by have := h2.2.2.2.2.2.2.2.2.2 h8; omega
    · rw [decide_eq_false h9, cond_false]
      unfold tag_Check_j1
      rw [if_pos ⟨by omega, by omega, by omega, by omega, by omega, by omega, by omega, by omega, fun h => absurd h h8, fun _ => by omega⟩]

/-- the writer, as far as it is -/
structure Wt (m0 M : Mem) (wo : Nat) (t : TagT) (n : Nat) : Prop where
  gr : Gr m0 M
  wo_ : ∃ a, M[wo]? = some (.live (tagC t ++ [.slice a n n])) ∧ m0.length ≤ wo ∧ ((a = none ∧ n = 0) ∨ ∃ q, a = some ⟨q, 0, some 1⟩ ∧ q ≠ wo ∧ m0.length ≤ q ∧ M[q]? = some (.live (bys n (tagW t))))
theorem putW (k : Nat) (hk : 10 < k) {m0 M : Mem} {wo : Nat} {t : TagT} {n : Nat} (h : Wt m0 M wo t n) {v : Int} {l : Nat} (h1 : 1 ≤ l) (h8 : l ≤ 8) (hn : n < 100) (hv0 : 0 ≤ v) (hv : v.toNat < 256 ^ l) (hv2 : v < 18446744073709551616) (hw : ∀ i, i < l → dig v.toNat i = tagW t (n + i)) {F : Nat} {fs : List Value} (hF : M[F]? = some (.live fs)) (hFw : F ≠ wo) (hFl : fs.length ≠ n) :
    ∃ M', tag_writer_put k (some ⟨wo, 0, none⟩) v (l : Int) M = some (.nilIface, M') ∧ Wt m0 M' wo t (n + l) ∧ M'[F]? = some (.live fs) := by
  obtain ⟨a, w1, w2, w3⟩ := h.wo_
  have ev : ((v.toNat : Nat) : Int) = v := Int.toNat_of_nonneg hv0
  have wr0 : IntKind.wrap .u64 v = ((v.toNat : Nat) : Int) := by
    unfold IntKind.wrap
    simp only [IntKind.bits, IntKind.signed, Bool.false_and, Bool.false_eq_true, if_false]
    rw [ev]
    exact Int.emod_eq_of_lt hv0 hv2
  have e1 := put_is k hk M v.toNat l h1 h8 hv
  have g1 : Gr M (M ++ [.live (bys l (dig v.toNat))]) := Gr.app _ _
  have r1 : rdSl (M ++ [.live (bys l (dig v.toNat))]) (some ⟨M.length, 0, none⟩) l 1 = some (bys l (dig v.toNat)) := rdSl_all (get_last rfl) (by rw [bys_len, Nat.mul_one])
  have ws := get_grow (g := [MObj.live (bys l (dig v.toNat))]) w1
  have s1 : ldSl (M ++ [.live (bys l (dig v.toNat))]) ⟨wo, 5, none⟩ = some ⟨a, n, n⟩ := ldSl_of ws rfl
  have l1 : (M ++ [MObj.live (bys l (dig v.toNat))]).length = M.length + 1 := by simp
  have wlt := get_lt w1
  obtain ⟨M3, a1, a2, a3, a4, a5⟩ := appM_any (z := 1) (y := 1) (m := M ++ [.live (bys l (dig v.toNat))]) (a := a) (n := n) (l := l) (old := bys n (tagW t)) (new := bys l (dig v.toNat)) (by
    rcases w3 with ⟨q1, q2⟩ | ⟨q, q1, _, _, q2⟩
    · refine .inl ⟨q1, q2, ?_⟩
      subst q2; rfl
    · exact .inr ⟨q, q1, get_grow q2, by rw [bys_len, Nat.mul_one]⟩) (by omega) (by unfold most; omega) (by unfold most; omega)
  have qne : ∀ b, a = some ⟨b, 0, some 1⟩ → wo ≠ b := fun b hb he => by
    rcases w3 with ⟨q1, _⟩ | ⟨q, q1, q3, _, _⟩
    · rw [q1] at hb; cases hb
    · rw [q1] at hb; simp only [Option.some.injEq, Addr.mk.injEq, and_true] at hb; omega
  have qge : ∀ b, a = some ⟨b, 0, some 1⟩ → m0.length ≤ b := fun b hb => by
    rcases w3 with ⟨q1, _⟩ | ⟨q, q1, _, q3, _⟩
    · rw [q1] at hb; cases hb
    · rw [q1] at hb; simp only [Option.some.injEq, Addr.mk.injEq, and_true] at hb; omega
  rw [l1] at a1 a2 a3
  have w4 : M3[wo]? = some (.live (tagC t ++ [.slice a n n])) := by rw [a4 wo (by omega) qne]; exact ws
  have st1 := st_wr (sp := none) (off := 5) (v := .slice (some ⟨M.length + 1, 0, some 1⟩) (n + l) (n + l)) w4 (by simp [tagC])
  have hs : (tagC t ++ [Value.slice a n n]).set 5 (.slice (some ⟨M.length + 1, 0, some 1⟩) (n + l) (n + l)) = tagC t ++ [.slice (some ⟨M.length + 1, 0, some 1⟩) (n + l) (n + l)] := rfl
  rw [hs] at st1
  have ml := h.gr.len
  refine ⟨wr M3 wo (tagC t ++ [.slice (some ⟨M.length + 1, 0, some 1⟩) (n + l) (n + l)]), ?_, ⟨((a5 m0 (h.gr.trans g1) qge).wr w2 _), _, wr_get w4, w2, .inr ⟨M.length + 1, rfl, by omega, by omega, ?_⟩⟩, ?_⟩
  · unfold tag_writer_put
    rw [wr0, e1]
    simp only [Option.bind_some, plus, Nat.zero_add, s1, r1, a1, st1]
  · rw [wr_ne (by omega), a3, bys_append]
    rw [bys_congr fun i hi => ?_]
    by_cases h2 : i < n
    · rw [if_pos h2]
    · rw [if_neg h2, hw (i - n) (by omega)]; congr 1; omega
  · have := get_lt hF
    rw [wr_ne (Ne.symm hFw), a4 F (by omega) fun b hb he => ?_]
    · exact get_grow hF
    · rcases w3 with ⟨q1, _⟩ | ⟨q, q1, q3, _, q4⟩
      · rw [q1] at hb; cases hb
      · rw [q1] at hb; simp only [Option.some.injEq, Addr.mk.injEq, and_true] at hb
        subst hb; subst he
        rw [hF] at q4; cases q4
        rw [bys_len] at hFl; exact hFl rfl
theorem tagEnc_no (k : Nat) {t : TagT} (h : ¬ t.ok) (m : Mem) : Ok (tag_Encode k (tagC t) m) fun r => r.1 = ⟨none, 0, 0⟩ ∧ r.2.1 = errC 1 ∧ Gr m r.2.2 := by
  unfold tag_Encode
  have L5 : Nat.beq (tagC t).length 5 = true := rfl
  have c1 : ldCells (m ++ [.live (tagC t)]) ⟨m.length, 0, none⟩ 5 = some (tagC t) := by rw [ldCells_of (off := 0) (n := 5) (get_last rfl) (Nat.le_refl _)]; rfl
  have n1 : isNil (errC 1) = some false := rfl
  simp only [L5, cond_true, c1, Option.bind_some, check_is, if_neg h, n1, Bool.not_false]
  exact .some ⟨rfl, rfl, (Gr.app _ _).trans (Gr.app _ _)⟩
theorem tagW_tail (t : TagT) {i : Nat} (h : 10 ≤ i) : tagW t i = 0 := by
  unfold tagW
  rw [if_neg (by omega), if_neg (by omega), if_neg (by omega), if_neg (by omega), if_neg (by omega)]
theorem tagEnc_ok (k : Nat) (hk : 100 < k) {t : TagT} (h : t.ok) (m : Mem) : Ok (tag_Encode k (tagC t) m) fun r => ∃ q, r.1 = ⟨some ⟨q, 0, some 1⟩, 50, 50⟩ ∧ r.2.1 = .nilIface ∧ Gr m r.2.2 ∧ m.length ≤ q ∧ r.2.2[q]? = some (.live (bys 50 (tagW t))) := by
  unfold tag_Encode
  have L5 : Nat.beq (tagC t).length 5 = true := rfl
  have c1 : ldCells (m ++ [.live (tagC t)]) ⟨m.length, 0, none⟩ 5 = some (tagC t) := by rw [ldCells_of (off := 0) (n := 5) (get_last rfl) (Nat.le_refl _)]; rfl
  have n1 : isNil .nilIface = some true := rfl
  have c2 : ldCells (m ++ [.live (tagC t)] ++ [.live (tagC t)]) ⟨m.length, 0, none⟩ 5 = some (tagC t) := by rw [ldCells_of (off := 0) (n := 5) (get_grow (get_last rfl)) (Nat.le_refl _)]; rfl
  have pu : putAt [.int .i64 0, .int .i64 0, .int .i64 0, .int .i64 0, .bool false, .slice none 0 0] 0 5 (tagC t) = tagC t ++ [.slice none 0 0] := rfl
  have L6 : Nat.beq (tagC t ++ [Value.slice none 0 0]).length 6 = true := rfl
  simp only [L5, cond_true, c1, Option.bind_some, check_is, if_pos h, n1, Bool.not_true, cond_false, c2, pu, L6]
  have g0 : Gr m (m ++ [.live (tagC t)] ++ [.live (tagC t)]) := (Gr.app _ _).trans (Gr.app _ _)
  generalize m ++ [.live (tagC t)] ++ [.live (tagC t)] = m0 at *
  have hW : Wt m0 (m0 ++ [.live (tagC t ++ [.slice none 0 0])]) m0.length t 0 := ⟨Gr.app _ _, none, get_last rfl, Nat.le_refl _, .inl ⟨rfl, rfl⟩⟩
  have l6 : (m0 ++ [MObj.live (tagC t ++ [.slice none 0 0])]).length = m0.length + 1 := by simp
  rw [l6]
  obtain ⟨fs, hfs⟩ : ∃ fs : List Value, fs = [(Value.func (Fn.func 38) ⟨[(Value.pointer (some ⟨m0.length, 0, none⟩))]⟩ ⟨[]⟩), (Value.func (Fn.func 39) ⟨[(Value.pointer (some ⟨m0.length, 0, none⟩))]⟩ ⟨[]⟩), (Value.func (Fn.func 40) ⟨[(Value.pointer (some ⟨m0.length, 0, none⟩))]⟩ ⟨[]⟩), (Value.func (Fn.func 41) ⟨[(Value.pointer (some ⟨m0.length, 0, none⟩))]⟩ ⟨[]⟩), (Value.func (Fn.func 42) ⟨[(Value.pointer (some ⟨m0.length, 0, none⟩))]⟩ ⟨[]⟩)] := ⟨_, rfl⟩
  rw [← hfs]
  -- the list of functions is no row that is written
  have hW : Wt m0 (m0 ++ [.live (tagC t ++ [.slice none 0 0])] ++ [.live fs]) m0.length t 0 := ⟨(Gr.app _ _).trans (Gr.app _ _), none, get_grow (get_last rfl), Nat.le_refl _, .inl ⟨rfl, rfl⟩⟩
  have hF : (m0 ++ [.live (tagC t ++ [.slice none 0 0])] ++ [.live fs])[m0.length + 1]? = some (.live fs) := get_last l6
  have fl : fs.length = 5 := by rw [hfs]; rfl
  let Lj : Nat → Nat := fun j => if j = 0 then 0 else if j = 1 then 2 else if j = 2 then 3 else if j = 3 then 8 else if j = 4 then 9 else 10
  refine tag_Encode_l0_rule k _ _ (fun d x5 x27a x27n x27c x28 x29 M' => (⟨m0.length, 0, none⟩ : Addr) = x5 ∧ (some ⟨m0.length + 1, 0, none⟩ : Option Addr) = x27a ∧ 5 = x27n ∧ 5 = x27c ∧ (5 : Int) = x28 ∧ ∃ j : Nat, x29 = j ∧ j + d = 5 ∧ Wt m0 M' m0.length t (Lj j) ∧ M'[m0.length + 1]? = some (.live fs)) ?_ k 5 _ _ _ _ _ _ _ (by omega)
    ⟨rfl, rfl, rfl, rfl, rfl, 0, rfl, rfl, hW, hF⟩
  rintro d nx _ _ _ _ _ _ M ⟨rfl, rfl, rfl, rfl, rfl, j, rfl, hd, hW, hF⟩ hnx
  unfold tag_Encode_l0_b
  obtain ⟨o1, o2, o3, o4, o5, o6, o7, o8, o9, o10⟩ := h
  obtain ⟨a, w1, w2, w3⟩ := hW.wo_
  have p0 : ldInt .i64 M ⟨m0.length, 0, none⟩ = some t.place := ldInt_of w1 rfl
  have p1 : ldInt .i64 M ⟨m0.length, 1, none⟩ = some t.of_ := ldInt_of w1 rfl
  have p2 : ldInt .i64 M ⟨m0.length, 2, none⟩ = some t.seq := ldInt_of w1 rfl
  have p3 : ldInt .i64 M ⟨m0.length, 3, none⟩ = some t.copy := ldInt_of w1 rfl
  have p4 : ldBool M ⟨m0.length, 4, none⟩ = some t.lost := ldBool_of w1 rfl
  by_cases hj : (j : Int) < 5
  · have tj : Int.toNat (j : Int) = j := Int.toNat_natCast j
    have i1 : inRange (j : Int) 5 = true := inRange_yes (by omega) hj
    have hj' : j = 0 ∨ j = 1 ∨ j = 2 ∨ j = 3 ∨ j = 4 := by omega
    have fin : ∀ (f : Nat) (M2 : Mem), ldVal M ⟨m0.length + 1, j, none⟩ = some (Value.func (Fn.func f) ⟨[(Value.pointer (some ⟨m0.length, 0, none⟩))]⟩ ⟨[]⟩) → (∀ K : Value → Mem → Option (Sl × Value × Mem), callV (tag_Encode_call k) (Value.func (Fn.func f) ⟨[(Value.pointer (some ⟨m0.length, 0, none⟩))]⟩ ⟨[]⟩) [] M K = K .nilIface M2) → Wt m0 M2 m0.length t (Lj (j + 1)) → M2[m0.length + 1]? = some (.live fs) →
        Ok (tag_Encode_l0_b k nx (fun y2a y2n y2c y3 m13 => some ((⟨y2a, y2n, y2c⟩ : Sl), y3, m13)) (fun y5 m14 => (ldSl m14 (plus y5 5)).bind fun t15 => (ldSl m14 (plus y5 5)).bind fun t16 => bif decide (0 < IntKind.wrap .i64 (50 - ((t16.len : Nat) : Int))) && decide (IntKind.wrap .i64 (50 - ((t16.len : Nat) : Int)) ≤ 1000000) then ((appM 1 1 m14 t15.a t15.len t15.cap (Int.toNat (IntKind.wrap .i64 (50 - ((t16.len : Nat) : Int)))) (repl (Int.toNat (IntKind.wrap .i64 (50 - ((t16.len : Nat) : Int)))) [.int .u8 0])).bind fun r18 => some ((⟨r18.1.a, r18.1.len, r18.1.cap⟩ : Sl), Value.nilIface, r18.2)) else none) ⟨m0.length, 0, none⟩ (some ⟨m0.length + 1, 0, none⟩) 5 5 5 (j : Int) M) fun r => ∃ q, r.1 = ⟨some ⟨q, 0, some 1⟩, 50, 50⟩ ∧ r.2.1 = .nilIface ∧ Gr m r.2.2 ∧ m.length ≤ q ∧ r.2.2[q]? = some (.live (bys 50 (tagW t))) := by
      intro f M2 e1 e2 e3 e4
      unfold tag_Encode_l0_b
      simp (disch := omega) only [Option.bind_some, Option.map_some, cond_true, cond_false, wrap_i64, tmod_pos, tdiv_pos, inRange_yes, inUpto_yes, isZero_no, decide_eq_true, decide_eq_false, Bool.not_true, Bool.not_false, Int.toNat_natCast, Nat.mul_one, beqI_yes, beqI_no, bneI_yes, bneI_no, isNil_nil, isNil_iface, wr_wr, Option.isNone_none, Option.isNone_some, plus, Nat.zero_add, Nat.add_zero, decide_eq_true hj, i1, tj, e1, e2, n1]
      exact hnx (d - 1) _ _ _ _ _ _ _ (by omega) ⟨rfl, rfl, rfl, rfl, rfl, j + 1, by omega, by omega, e3, e4⟩
    have gF : ∀ (i : Nat) v, fs[i]? = some v → ldVal M ⟨m0.length + 1, i, none⟩ = some v := fun i v hv => ldVal_of hF hv
    unfold tag_Encode_l0_b at fin
    rcases hj' with rfl | rfl | rfl | rfl | rfl
    · obtain ⟨M2, b1, b2, b3⟩ := putW k (by omega) hW (v := t.place) (l := 2) (by omega) (by omega) (by show (0 : Nat) < 100; omega) o1 (by omega) (by omega) (fun i hi => by show _ = tagW t (0 + i); rw [Nat.zero_add]; unfold tagW; rw [if_pos hi]) hF (by omega) (by rw [fl]; show 5 ≠ 0; omega)
      refine fin _ M2 (gF 0 _ (by rw [hfs]; rfl)) (fun K => ?_) b2 b3
      show (tag_writer_place k (some ⟨m0.length, 0, none⟩) M).bind (fun r => K r.1 r.2) = _
      unfold tag_writer_place
      simp only [Option.bind_some, plus, Nat.zero_add, Nat.add_zero, p0]
      rw [show tag_writer_put k (some ⟨m0.length, 0, none⟩) t.place 2 M = _ from b1]; rfl
    · obtain ⟨M2, b1, b2, b3⟩ := putW k (by omega) hW (v := t.of_) (l := 1) (by omega) (by omega) (by show (2 : Nat) < 100; omega) o3 (by omega) (by omega) (fun i hi => by show _ = tagW t (2 + i); unfold tagW; rw [if_neg (by omega), if_pos (by omega)]; congr 1; omega) hF (by omega) (by rw [fl]; show 5 ≠ 2; omega)
      refine fin _ M2 (gF 1 _ (by rw [hfs]; rfl)) (fun K => ?_) b2 b3
      show (tag_writer_of k (some ⟨m0.length, 0, none⟩) M).bind (fun r => K r.1 r.2) = _
      unfold tag_writer_of
      simp only [Option.bind_some, plus, Nat.zero_add, Nat.add_zero, p1]
      rw [show tag_writer_put k (some ⟨m0.length, 0, none⟩) t.of_ 1 M = _ from b1]; rfl
    · obtain ⟨M2, b1, b2, b3⟩ := putW k (by omega) hW (v := t.seq) (l := 5) (by omega) (by omega) (by show (3 : Nat) < 100; omega) (by omega) (by omega) (by omega) (fun i hi => by show _ = tagW t (3 + i); unfold tagW; rw [if_neg (by omega), if_neg (by omega), if_pos (by omega)]; congr 1; omega) hF (by omega) (by rw [fl]; show 5 ≠ 3; omega)
      refine fin _ M2 (gF 2 _ (by rw [hfs]; rfl)) (fun K => ?_) b2 b3
      show (tag_writer_seq k (some ⟨m0.length, 0, none⟩) M).bind (fun r => K r.1 r.2) = _
      unfold tag_writer_seq
      simp only [Option.bind_some, plus, Nat.zero_add, Nat.add_zero, p2]
      rw [show tag_writer_put k (some ⟨m0.length, 0, none⟩) t.seq 5 M = _ from b1]; rfl
    · obtain ⟨M2, b1, b2, b3⟩ := putW k (by omega) hW (v := t.copy) (l := 1) (by omega) (by omega) (by show (8 : Nat) < 100; omega) o7 (by omega) (by omega) (fun i hi => by show _ = tagW t (8 + i); unfold tagW; rw [if_neg (by omega), if_neg (by omega), if_neg (by omega), if_pos (by omega)]; congr 1; omega) hF (by omega) (by rw [fl]; show 5 ≠ 8; omega)
      refine fin _ M2 (gF 3 _ (by rw [hfs]; rfl)) (fun K => ?_) b2 b3
      show (tag_writer_copies k (some ⟨m0.length, 0, none⟩) M).bind (fun r => K r.1 r.2) = _
      unfold tag_writer_copies
      simp only [Option.bind_some, plus, Nat.zero_add, Nat.add_zero, p3]
      rw [show tag_writer_put k (some ⟨m0.length, 0, none⟩) t.copy 1 M = _ from b1]; rfl
    · have hw9 : ∀ i, i < 1 → dig (Int.toNat (if t.lost = true then 1 else 0)) i = tagW t (Lj 4 + i) := by
        intro i hi
        show _ = tagW t (9 + i)
        unfold tagW
        rw [if_neg (show ¬ 9 + i < 2 by omega), if_neg (show ¬ 9 + i < 3 by omega), if_neg (show ¬ 9 + i < 8 by omega), if_neg (show ¬ 9 + i < 9 by omega), if_pos (show 9 + i < 10 by omega), show 9 + i - 9 = i by omega]
        cases t.lost <;> rfl
      obtain ⟨M2, b1, b2, b3⟩ := putW k (by omega) hW (v := if t.lost = true then 1 else 0) (l := 1) (by omega) (by omega) (by show (9 : Nat) < 100; omega) (by split <;> omega) (by split <;> decide) (by split <;> omega) hw9 hF (by omega) (by rw [fl]; show 5 ≠ 9; omega)
      refine fin _ M2 (gF 4 _ (by rw [hfs]; rfl)) (fun K => ?_) b2 b3
      show (tag_writer_lost k (some ⟨m0.length, 0, none⟩) M).bind (fun r => K r.1 r.2) = _
      unfold tag_writer_lost
      simp only [Option.bind_some, plus, Nat.zero_add, Nat.add_zero, p4]
      cases hl : t.lost with
      | true =>
        rw [hl] at b1
        rw [cond_true, show tag_writer_put k (some ⟨m0.length, 0, none⟩) 1 1 M = _ from b1]; rfl
      | false =>
        rw [hl] at b1
        rw [cond_false, show tag_writer_put k (some ⟨m0.length, 0, none⟩) 0 1 M = _ from b1]; rfl
  · clear hnx
    obtain rfl : j = 5 := by omega
    have w1 : M[m0.length]? = some (.live (tagC t ++ [.slice a 10 10])) := w1
    rcases w3 with ⟨_, q1⟩ | ⟨q, rfl, q2, q3, q4⟩
    · exact absurd q1 (by show ¬ (10 : Nat) = 0; omega)
    have q4 : M[q]? = some (.live (bys 10 (tagW t))) := q4
    have s1 : ldSl M ⟨m0.length, 5, none⟩ = some ⟨some ⟨q, 0, some 1⟩, 10, 10⟩ := ldSl_of w1 rfl
    have w40 : IntKind.wrap .i64 (50 - ((10 : Nat) : Int)) = 40 := rfl
    have t40 : Int.toNat 40 = 40 := rfl
    obtain ⟨M3, a1, a2, a3, a4, a5⟩ := appM_any (z := 1) (y := 1) (m := M) (a := some ⟨q, 0, some 1⟩) (n := 10) (l := 40) (old := bys 10 (tagW t)) (new := bys 40 fun _ => 0) (.inr ⟨q, rfl, q4, by rw [bys_len]⟩) (by omega) (by unfold most; omega) (by unfold most; omega)
    have d5 : decide (((5 : Nat) : Int) < 5) = false := rfl
    have c40 : (decide ((0 : Int) < 40) && decide ((40 : Int) ≤ 1000000)) = true := rfl
    simp only [d5, cond_false, plus, Nat.zero_add, s1, Option.bind_some, w40, t40, bys_zero, a1, c40, cond_true]
    have ml := g0.len
    have mm := hW.gr.len
    refine .some ⟨M.length, rfl, rfl, g0.trans (a5 m0 hW.gr fun b hb => by cases hb; exact q3), by omega, ?_⟩
    rw [a3, bys_append, bys_congr fun i hi => ?_]
    by_cases h2 : i < 10
    · rw [if_pos h2]
    · rw [if_neg h2, tagW_tail t (by omega)]
end Go.Proofs.Ytchonnaoojpdoaa

/- Tags: a body's tag. -/
set_option linter.unusedVariables false
set_option linter.unusedSectionVars false
set_option linter.unusedSimpArgs false
namespace Go.Proofs.Ytchonnaoojpdoaa
open Go.Mx

def getV (w : Nat → GF) : Nat → Nat
  | 0 => 0
  | n + 1 => getV w n + (w n).v * 256 ^ n
theorem getV_lt (w : Nat → GF) : ∀ n, getV w n < 256 ^ n
  | 0 => by show 0 < 1; omega
  | n + 1 => by
    have h1 := getV_lt w n
    have h2 := GF.v_lt (w n)
    show getV w n + (w n).v * 256 ^ n < 256 ^ (n + 1)
    rw [Nat.pow_succ]
    have : (w n).v * 256 ^ n ≤ 255 * 256 ^ n := Nat.mul_le_mul_right _ (by omega)
    omega
theorem orN {X c s : Nat} (hX : X < 2 ^ s) (hc : c < 256) (hs : s + 8 ≤ 64) : bitI .or .u64 (X : Int) (shlI .u64 (c : Int) (s : Int)) = ((X + c * 2 ^ s : Nat) : Int) := by
  have hcs : c * 2 ^ s < 2 ^ 64 := by
    have h1 : c * 2 ^ s < 256 * 2 ^ s := Nat.mul_lt_mul_of_pos_right hc (Nat.two_pow_pos s)
    have h2 : 256 * 2 ^ s = 2 ^ (s + 8) := by rw [Nat.pow_add]; omega
    have h3 : 2 ^ (s + 8) ≤ 2 ^ 64 := Nat.pow_le_pow_right (by omega) hs
    omega
  have hX2 : X < 2 ^ 64 := Nat.lt_of_lt_of_le hX (Nat.pow_le_pow_right (by omega) (by omega))
  have e1 : shlI .u64 (c : Int) (s : Int) = ((c * 2 ^ s : Nat) : Int) := by
    unfold shlI
    have : min (Int.toNat (s : Int)) (IntKind.bits .u64) = s := by rw [Int.toNat_natCast]; exact Nat.min_eq_left (by show s ≤ 64; omega)
    rw [this]
    unfold IntKind.wrap
    simp only [IntKind.bits, IntKind.signed, Bool.false_and, Bool.false_eq_true, if_false]
    rw [show (c : Int) * 2 ^ s = ((c * 2 ^ s : Nat) : Int) by push_cast; rfl]
    omega
  rw [e1]
  unfold bitI
  simp only
  rw [BitVec.ofInt_natCast, BitVec.ofInt_natCast, BitVec.toNat_or, BitVec.toNat_ofNat, BitVec.toNat_ofNat]
  have b64 : IntKind.bits .u64 = 64 := rfl
  rw [b64, Nat.mod_eq_of_lt hX2, Nat.mod_eq_of_lt hcs, Nat.or_comm]
  have := Nat.shiftLeft_add_eq_or_of_lt hX c
  rw [Nat.shiftLeft_eq] at this
  rw [← this]
  unfold IntKind.wrap
  simp only [IntKind.bits, IntKind.signed, Bool.false_and, Bool.false_eq_true, if_false]
  have h4 : c * 2 ^ s + X < 2 ^ 64 := by
    have h1 : (c + 1) * 2 ^ s ≤ 256 * 2 ^ s := Nat.mul_le_mul_right _ (by omega)
    have h2 : 256 * 2 ^ s = 2 ^ (s + 8) := by rw [Nat.pow_add]; omega
    have h3 : 2 ^ (s + 8) ≤ 2 ^ 64 := Nat.pow_le_pow_right (by omega) hs
    rw [Nat.add_mul] at h1
    omega
  omega
theorem get_is (k : Nat) (hk : 10 < k) {m : Mem} {a : Option Addr} {n c : Nat} {w : Nat → GF} (hw : Src m a n w) (h1 : 1 ≤ n) (h8 : n ≤ 8) : wire_Get k a n c m = some (((getV w n : Nat) : Int), .nilIface, m) := by
  have key : Ok (wire_Get k a n c m) fun r => r = (((getV w n : Nat) : Int), .nilIface, m) := by
    unfold wire_Get
    rw [decide_eq_false (by omega), decide_eq_false (by omega), cond_false, cond_false]
    refine wire_Get_l0_rule k _ (fun r x4 x16a x16n x16c x17 x18 m' => a = x16a ∧ n = x16n ∧ c = x16c ∧ (n : Int) = x17 ∧ m = m' ∧ ∃ i : Nat, x18 = i ∧ i + r = n ∧ x4 = ((getV w i : Nat) : Int)) ?_ k n _ _ _ _ _ _ _ (by omega)
      ⟨rfl, rfl, rfl, rfl, rfl, 0, rfl, by omega, rfl⟩
    rintro r nx _ _ _ _ _ _ _ ⟨rfl, rfl, rfl, rfl, rfl, i, rfl, hr, rfl⟩ hnx
    unfold wire_Get_l0_b
    by_cases hi : (i : Int) < n
    · obtain ⟨ad, rfl, e1⟩ := hw.ld (i := i) (by omega)
      have i1 : inRange (i : Int) n = true := inRange_yes (by omega) hi
      have ti : Int.toNat (i : Int) = i := Int.toNat_natCast i
      have w8 : IntKind.wrap .i64 (8 * (i : Int)) = ((8 * i : Nat) : Int) := by rw [wrap_i64 (by omega) (by omega)]; push_cast; rfl
      have vl := GF.v_lt (w i)
      have w64 : IntKind.wrap .u64 ((w i).v : Int) = ((w i).v : Int) := by
        unfold IntKind.wrap
        simp only [IntKind.bits, IntKind.signed, Bool.false_and, Bool.false_eq_true, if_false]
        omega
      have p8 : 2 ^ (8 * i) = 256 ^ i := by rw [Nat.pow_mul]
      have or1 := orN (X := getV w i) (c := (w i).v) (s := 8 * i) (by rw [p8]; exact getV_lt w i) vl (by omega)
      rw [p8] at or1
      have nn : decide (((8 * i : Nat) : Int) < 0) = false := decide_eq_false (by omega)
      simp only [decide_eq_true hi, cond_true, i1, Option.bind_some, ti, Nat.mul_one, e1, w8, nn, cond_false, w64, or1]
      exact hnx (r - 1) _ _ _ _ _ _ _ (by omega) ⟨rfl, rfl, rfl, rfl, rfl, i + 1, by rw [wrap_i64 (by omega) (by omega)]; push_cast; rfl, by omega, rfl⟩
    · obtain rfl : i = n := by omega
      rw [decide_eq_false hi, cond_false]
      exact .some rfl
  obtain ⟨r, h2, rfl⟩ := key
  exact h2
theorem getV_dig (v : Nat) (w : Nat → GF) : ∀ n, (∀ i, i < n → w i = dig v i) → getV w n = v % 256 ^ n
  | 0, _ => by simp [getV, Nat.mod_one]
  | n + 1, h => by
    show getV w n + (w n).v * 256 ^ n = _
    rw [getV_dig v w n (fun i hi => h i (by omega)), h n (by omega), dig_v, Nat.pow_succ, Nat.mod_mul]
    rw [Nat.mul_comm]

/-! ## equal bytes -/
theorem str_iff {n n' : Nat} (u w : Nat → GF) : strEq ⟨(((List.range n).map u).map fun g => UInt8.ofNat g.v).toArray⟩ ⟨(((List.range n').map w).map fun g => UInt8.ofNat g.v).toArray⟩ = true ↔ n = n' ∧ ∀ i, i < n → u i = w i := by
  unfold strEq
  rw [ba_toList, ba_toList, beq_iff_eq]
  constructor
  · intro h
    have hl := congrArg List.length h
    simp only [List.length_map, List.length_range] at hl
    refine ⟨hl, fun i hi => ?_⟩
    have h1 := congrArg (fun l => l[i]?) h
    simp only [List.getElem?_map, List.getElem?_range hi, List.getElem?_range (show i < n' by omega), Option.map_some, Option.some.injEq] at h1
    have h2 := congrArg UInt8.toNat h1
    simp only [UInt8.toNat_ofNat'] at h2
    have a1 := GF.v_lt (u i)
    have a2 := GF.v_lt (w i)
    exact GF.v_inj (by omega)
  · rintro ⟨rfl, h⟩
    have : (List.range n).map u = (List.range n).map w := List.map_congr_left fun i hi => h i (List.mem_range.1 hi)
    show List.map _ _ = List.map _ _
    rw [this]
theorem bytesEq_is (k : Nat) {m : Mem} {a b : Option Addr} {n n' c c' : Nat} {u w : Nat → GF} (ha : Src m a n u) (hb : Src m b n' w) (h0 : 0 < n) (h0' : 0 < n') : ∃ z, bytes_Equal k a n c b n' c' m = some (z, m) ∧ (z = true ↔ n = n' ∧ ∀ i, i < n → u i = w i) := by
  refine ⟨_, ?_, str_iff u w⟩
  unfold bytes_Equal
  rw [show rdSl m a n 1 = _ from ha, Option.bind_some, str_bys h0, Option.bind_some, show rdSl m b n' 1 = _ from hb, Option.bind_some, str_bys h0', Option.bind_some]

/-! ## a body's tag -/
def tagP (w : Nat → GF) : TagT := ⟨(getV w 2 : Nat), ((w 2).v : Int), (getV (fun i => w (3 + i)) 5 : Nat), ((w 8).v : Int), decide ((w 9).v = 1)⟩
open Classical in
noncomputable def tagD (w : Nat → GF) : Option TagT := if (tagP w).ok ∧ ∀ i, i < 50 → tagW (tagP w) i = w i then some (tagP w) else none
theorem tagP_self {t : TagT} (h : t.ok) {w : Nat → GF} (hw : ∀ i, i < 50 → w i = tagW t i) : tagP w = t := by
  obtain ⟨o1, o2, o3, o4, o5, o6, o7, o8, o9, o10⟩ := h
  have e1 : getV w 2 = t.place.toNat := by
    rw [getV_dig t.place.toNat w 2 fun i hi => by rw [hw i (by omega)]; unfold tagW; rw [if_pos hi]]
    exact Nat.mod_eq_of_lt (by show t.place.toNat < 65536; omega)
  have e2 : (w 2).v = t.of_.toNat := by
    rw [hw 2 (by omega)]
    show (dig t.of_.toNat 0).v = _
    rw [dig_v]; show t.of_.toNat / 1 % 256 = _; omega
  have e3 : getV (fun i => w (3 + i)) 5 = t.seq.toNat := by
    rw [getV_dig t.seq.toNat _ 5 fun i hi => by
      show w (3 + i) = _
      rw [hw (3 + i) (by omega)]; unfold tagW; rw [if_neg (by omega), if_neg (by omega), if_pos (by omega)]; congr 1; omega]
    exact Nat.mod_eq_of_lt (by show t.seq.toNat < 1099511627776; omega)
  have e4 : (w 8).v = t.copy.toNat := by
    rw [hw 8 (by omega)]
    show (dig t.copy.toNat 0).v = _
    rw [dig_v]; show t.copy.toNat / 1 % 256 = _; omega
  have e5 : (w 9).v = if t.lost then 1 else 0 := by
    rw [hw 9 (by omega)]
    show (dig (if t.lost then 1 else 0) 0).v = _
    rw [dig_v]; cases t.lost <;> rfl
  unfold tagP
  rw [e1, e2, e3, e4, e5]
  obtain ⟨p, o, s, c, l⟩ := t
  simp only at *
  rw [Int.toNat_of_nonneg o1, Int.toNat_of_nonneg o3, Int.toNat_of_nonneg (by omega), Int.toNat_of_nonneg o7]
  cases l <;> rfl
theorem tagD_self {t : TagT} (h : t.ok) {w : Nat → GF} (hw : ∀ i, i < 50 → w i = tagW t i) : tagD w = some t := by
  unfold tagD
  rw [tagP_self h hw, if_pos ⟨h, fun i hi => (hw i hi).symm⟩]
theorem tagDec_ok (k : Nat) (hk : 100 < k) {m : Mem} {ad : Addr} {c : Nat} {w : Nat → GF} (hw : Src m (some ad) 50 w) (hz : okS ad) (hc : 50 ≤ c) :
    Ok (tag_Decode k (some ad) 50 c m) fun r => Gr m r.2.2 ∧ ((∃ t, tagD w = some t ∧ r.1 = tagC t ∧ r.2.1 = .nilIface) ∨ (tagD w = none ∧ r.1 = tagC ztag ∧ r.2.1 = errC 3)) := by
  unfold tag_Decode
  have b50 : (((50 : Nat) : Int) != 50) = false := rfl
  have hz0 : ([.int .i64 0, .int .i64 0, .int .i64 0, .int .i64 0, .bool false] : List Value) = tagC ztag := rfl
  have g1 : Gr m (m ++ [.live (tagC ztag)]) := Gr.app _ _
  have z1 : (m ++ [MObj.live (tagC ztag)])[m.length]? = some (.live (tagC ztag)) := get_last rfl
  have u1 : inUpto 2 c = true := inUpto_yes (by omega) (by omega)
  have u2 : inUpto 8 c = true := inUpto_yes (by omega) (by omega)
  have u3 : inUpto 3 (Int.toNat 8) = true := rfl
  have oz := hz.z
  have nn : isNil .nilIface = some true := rfl
  have i2 : inRange 2 50 = true := rfl
  have i8 : inRange 8 50 = true := rfl
  have i9 : inRange 9 50 = true := rfl
  have s1 := hw.grow g1
  have s2 : Src (m ++ [.live (tagC ztag)]) (some (plus ad 0)) 2 fun i => w (0 + i) := s1.part (by omega)
  have s2 : Src (m ++ [.live (tagC ztag)]) (some ad) 2 w := by
    have e : plus ad 0 = ad := rfl
    rw [e] at s2
    simpa only [Nat.zero_add] using s2
  have s3 : Src (m ++ [.live (tagC ztag)]) (some (plus ad 3)) 5 fun i => w (3 + i) := s1.part (by omega)
  have e1 := get_is k (by omega) (c := c) s2 (by omega) (by omega)
  have e2 := get_is k (by omega) (c := c - 3) s3 (by omega) (by omega)
  have ld : ∀ (i : Nat), i < 50 → ∀ M, Gr (m ++ [.live (tagC ztag)]) M → ldInt .u8 M (plus ad i) = some ((w i).v : Int) := fun i hi M hg => by
    obtain ⟨ad', h1, h2⟩ := (s1.grow hg).ld hi
    cases h1; exact h2
  have l2 := ld 2 (by omega) _ (Gr.refl _)
  have l8 := ld 8 (by omega) _ (Gr.refl _)
  have l9 := ld 9 (by omega) _ (Gr.refl _)
  have gm1 : Gr m (m ++ [MObj.live (tagC ztag)]) := Gr.app _ _
  generalize hM1 : m ++ [MObj.live (tagC ztag)] = M1 at *
  have ml : M1.length = m.length + 1 := by rw [← hM1]; simp
  have v0 := getV_lt w 2
  have v1 := getV_lt (fun i => w (3 + i)) 5
  have p2 : (256 : Nat) ^ 2 = 65536 := rfl
  have p5 : (256 : Nat) ^ 5 = 1099511627776 := rfl
  rw [p2] at v0; rw [p5] at v1
  have b2 := GF.v_lt (w 2)
  have b8 := GF.v_lt (w 8)
  have bo : (((w 9).v : Int) == 1) = decide ((w 9).v = 1) := by
    by_cases h : (w 9).v = 1
    · rw [h]; rfl
    · rw [decide_eq_false h, beq_eq_false_iff_ne]; omega
  have w0 : IntKind.wrap .i64 ((getV w 2 : Nat) : Int) = ((getV w 2 : Nat) : Int) := wrap_i64 (by omega) (by omega)
  have w2 : IntKind.wrap .i64 ((w 2).v : Int) = ((w 2).v : Int) := wrap_i64 (by omega) (by omega)
  have w8 : IntKind.wrap .i64 ((w 8).v : Int) = ((w 8).v : Int) := wrap_i64 (by omega) (by omega)
  have w3 : IntKind.wrap .i64 ((getV (fun i => w (3 + i)) 5 : Nat) : Int) = ((getV (fun i => w (3 + i)) 5 : Nat) : Int) := wrap_i64 (by omega) (by omega)
  have l2' := ld 2 (by omega) _ (Gr.app M1 [.live (tagC ztag)])
  have l8' := ld 8 (by omega) _ (Gr.app M1 [.live (tagC ztag)])
  have l9' := ld 9 (by omega) _ (Gr.app M1 [.live (tagC ztag)])
  have ht : ([Value.int .i64 ((getV w 2 : Nat) : Int), .int .i64 ((w 2).v : Int), .int .i64 ((getV (fun i => w (3 + i)) 5 : Nat) : Int), .int .i64 ((w 8).v : Int), .bool (decide ((w 9).v = 1))] : List Value) = tagC (tagP w) := rfl
  have st1 : stCells (M1 ++ [.live (tagC ztag)]) ⟨M1.length, 0, none⟩ (tagC (tagP w)) = some (M1 ++ [.live (tagC (tagP w))]) := by rw [stCells_wr (get_last rfl) (Nat.le_refl _), wr_last rfl]; rfl
  have c1 : ldCells (M1 ++ [.live (tagC (tagP w))]) ⟨M1.length, 0, none⟩ 5 = some (tagC (tagP w)) := by rw [ldCells_of (off := 0) (n := 5) (get_last rfl) (Nat.le_refl _)]; rfl
  have t2 : Int.toNat 2 = 2 := rfl
  have t3 : Int.toNat 3 = 3 := rfl
  have t8 : Int.toNat 8 = 8 := rfl
  have t9 : Int.toNat 9 = 9 := rfl
  simp only [b50, cond_false, hz0, u1, u2, u3, oz, Bool.and_self, cond_true, clear_f, t2, t3, t8, t9, e1, Option.bind_some, nn, Bool.not_true, Option.map_some, Nat.mul_one, show 8 - 3 = 5 from rfl, e2, i2, i8, i9, l2, l8, l9, w0, w2, w3, w8, bo, ht, hM1, st1, l2', l8', l9', beq_self_eq_true, c1]
  -- its own body
  have fin0 : ∀ M, Gr M1 M → ∃ M', stCells M ⟨m.length, 0, none⟩ (tagC ztag) = some M' ∧ ldCells M' ⟨m.length, 0, none⟩ 5 = some (tagC ztag) ∧ Gr m M' := fun M hg => by
    have z2 := hg.get z1
    refine ⟨_, stCells_wr z2 (Nat.le_refl _), ?_, (gm1.trans hg).wr (Nat.le_refl _) _⟩
    rw [ldCells_of (off := 0) (n := 5) (wr_get z2) (Nat.le_refl _)]; rfl
  by_cases hok : (tagP w).ok
  · refine .bind (tagEnc_ok k hk hok _) ?_
    rintro ⟨_, _, M⟩ ⟨q, rfl, rfl, hg, hq1, hq2⟩
    simp only at hg hq2 ⊢
    have gM : Gr M1 M := (Gr.app _ _).trans hg
    obtain ⟨z, f1, f2⟩ := bytesEq_is k (m := M) (c := 50) (c' := c) (Src.of (sp := some 1) hq2) (s1.grow gM) (by omega) (by omega)
    simp only [nn, Option.bind_some, Bool.not_true, cond_false, f1]
    cases z with
    | false =>
      obtain ⟨M', g1, g2, g3⟩ := fin0 M gM
      have hn : tagD w = none := by
        unfold tagD
        rw [if_neg]
        rintro ⟨_, h⟩
        have := f2.2 ⟨rfl, h⟩
        cases this
      simp only [Bool.not_false, cond_true, g1, Option.bind_some, g2]
      exact .some ⟨g3, .inr ⟨hn, rfl, rfl⟩⟩
    | true =>
      have hs : tagD w = some (tagP w) := by unfold tagD; rw [if_pos ⟨hok, (f2.1 rfl).2⟩]
      have x1 : M[M1.length]? = some (.live (tagC (tagP w))) := hg.get (get_last rfl)
      have c2 : ldCells M ⟨M1.length, 0, none⟩ 5 = some (tagC (tagP w)) := by rw [ldCells_of (off := 0) (n := 5) x1 (Nat.le_refl _)]; rfl
      have z2 := gM.get z1
      have st2 : stCells M ⟨m.length, 0, none⟩ (tagC (tagP w)) = some (wr M m.length (tagC (tagP w))) := stCells_wr z2 (Nat.le_refl _)
      have c3 : ldCells (wr M m.length (tagC (tagP w))) ⟨m.length, 0, none⟩ 5 = some (tagC (tagP w)) := by rw [ldCells_of (off := 0) (n := 5) (wr_get z2) (Nat.le_refl _)]; rfl
      have L5 : Nat.beq (tagC (tagP w)).length 5 = true := rfl
      simp only [Bool.not_true, cond_false, c2, Option.bind_some, L5, cond_true, st2, c3]
      exact .some ⟨(gm1.trans gM).wr (Nat.le_refl _) _, .inl ⟨_, hs, rfl, rfl⟩⟩
  · refine .bind (tagEnc_no k hok _) ?_
    rintro ⟨_, _, M⟩ ⟨rfl, rfl, hg⟩
    simp only at hg ⊢
    have gM : Gr M1 M := (Gr.app _ _).trans hg
    obtain ⟨M', g1, g2, g3⟩ := fin0 M gM
    have n1 : isNil (errC 1) = some false := rfl
    have hn : tagD w = none := by unfold tagD; rw [if_neg fun h => hok h.1]
    simp only [n1, Option.bind_some, Bool.not_false, cond_true, g1, g2]
    exact .some ⟨g3, .inr ⟨hn, rfl, rfl⟩⟩
end Go.Proofs.Ytchonnaoojpdoaa

/- The document's chip: bits turned; a new one. -/
set_option linter.unusedVariables false
set_option linter.unusedSectionVars false
set_option linter.unusedSimpArgs false
namespace Go.Proofs.Ytchonnaoojpdoaa
open Go.Mx


/-- a new chip, as far as it is built -/
structure Nw (m0 M : Mem) (n : Nat) (a : Option Addr) (lab : Nat → Option Lab) (g : RG) (σ : ChipS) (hd : List Value) : Prop where
  gr : Gr m0 M
  r_ : M[m0.length]? = some (.live (.slice a n n :: hd)) ∧ lab m0.length = some .chip
  q_ : (a = none ∧ n = 0) ∨ (a = some ⟨g.q, 0, some 5⟩ ∧ M[g.q]? = some (.live (farr n fun i => rblk (g.L i) (g.A i) (σ.b i))) ∧ lab g.q = some .blocks)
  l_ : ∀ i : Int, 0 ≤ i → i < n → M[g.L i]? = some (.live (rchs g i (σ.b i))) ∧ lab (g.L i) = some (.of i .l)
  n_ : ∀ i j : Int, 0 ≤ i → i < n → 0 ≤ j → j < 32 → M[(g.N i j).1]? = some (.live (arr .u8 64 ((σ.b i).ch j).now)) ∧ lab (g.N i j).1 = some (.of i (.n j))
  t_ : ∀ i j : Int, 0 ≤ i → i < n → 0 ≤ j → j < 32 → M[(g.T i j).1]? = some (.live (arr .u8 64 ((σ.b i).ch j).tru)) ∧ lab (g.T i j).1 = some (.of i (.t j))
  at_ : ∀ i : Int, 0 ≤ i → i < n → AtOk σ.steps (g.A i) (σ.b i).before
  new : ∀ p, lab p ≠ none → m0.length ≤ p ∧ p < M.length
theorem Nw.done {m0 M : Mem} {a : Option Addr} {lab : Nat → Option Lab} {g : RG} {σ : ChipS} (h : Nw m0 M 12 a lab g σ [.bool (!σ.off), .int .i64 (budR σ), .int .i64 σ.steps]) : RefX M m0.length lab g σ := by
  rcases h.q_ with ⟨_, h0⟩ | ⟨rfl, h1, h2⟩
  · omega
  · exact ⟨h.r_.1, h.r_.2, h1, h2, h.l_, h.n_, h.t_, h.at_, fun p hp => (h.new p hp).2⟩
/-- a block more -/
theorem Nw.next {m0 M M2 : Mem} {n : Nat} {a : Option Addr} {lab : Nat → Option Lab} {g : RG} {σ : ChipS} {hd : List Value} (h : Nw m0 M n a lab g σ hd) {L : Nat} {N T : Int → Nat × Bool} {av : Int} {lb : Nat → Option CL} (hg : Gr M M2)
    (hL : M2[L]? = some (.live (farr 32 fun j => rch (N j) (T j) ((σ.b n).ch j))) ∧ lb L = some .l) (hN : ∀ j : Int, 0 ≤ j → j < 32 → M2[(N j).1]? = some (.live (arr .u8 64 ((σ.b n).ch j).now)) ∧ lb (N j).1 = some (.n j))
    (hT : ∀ j : Int, 0 ≤ j → j < 32 → M2[(T j).1]? = some (.live (arr .u8 64 ((σ.b n).ch j).tru)) ∧ lb (T j).1 = some (.t j)) (hA : AtOk σ.steps av (σ.b n).before) (hnew : ∀ p, lb p ≠ none → M.length ≤ p ∧ p < M2.length) (hn : n < 12) {sp : Option Nat} :
    ∃ M3, appM 5 56 (M2 ++ [.live (rblk L av (σ.b n))]) a n n 1 (rblk L av (σ.b n)) = some (⟨some ⟨M2.length + 1, 0, some 5⟩, n + 1, n + 1⟩, M3) ∧ M3[m0.length]? = some (.live (.slice a n n :: hd)) ∧
      ∃ lab' g', Nw m0 (wr M3 m0.length (.slice (some ⟨M2.length + 1, 0, some 5⟩) (n + 1) (n + 1) :: hd)) (n + 1) (some ⟨M2.length + 1, 0, some 5⟩) lab' g' σ hd := by
  have l3 : (M2 ++ [MObj.live (rblk L av (σ.b n))]).length = M2.length + 1 := by simp
  have hgM : Gr M (M2 ++ [.live (rblk L av (σ.b n))]) := hg.trans (Gr.app _ _)
  have hlen : (farr n fun i => rblk (g.L i) (g.A i) (σ.b i)).length = n * 5 := farr_len (z := 5) fun _ _ _ => rfl
  have hml := h.gr.len
  have hml2 := hg.len
  have qlt : ∀ b, a = some ⟨b, 0, some 5⟩ → b = g.q ∧ m0.length ≤ b ∧ b < M.length ∧ lab b = some .blocks := by
    rintro b rfl
    rcases h.q_ with ⟨h1, _⟩ | ⟨h1, h2, h3⟩
    · cases h1
    · simp only [Option.some.injEq, Addr.mk.injEq, and_true] at h1
      subst h1
      exact ⟨rfl, (h.new _ (by rw [h3]; simp)).1, get_lt h2, h3⟩
  obtain ⟨M3, a1, a2, a3, a4, a5⟩ := appM_any (z := 5) (y := 56) (m := M2 ++ [.live (rblk L av (σ.b n))]) (a := a) (n := n) (l := 1) (old := farr n fun i => rblk (g.L i) (g.A i) (σ.b i)) (new := rblk L av (σ.b n)) (by
    rcases h.q_ with ⟨h1, h2⟩ | ⟨h1, h2, _⟩
    · refine .inl ⟨h1, h2, ?_⟩
      subst h2; rfl
    · exact .inr ⟨g.q, h1, hgM.get h2, hlen⟩) (by omega) (by unfold most; omega) (by unfold most; omega)
  have a5 := a5 m0 (h.gr.trans hgM) fun b hb => (qlt b hb).2.1
  rw [l3] at a1 a2 a3
  have rne : ∀ b, a = some ⟨b, 0, some 5⟩ → m0.length ≠ b := fun b hb he => by
    have := (qlt b hb).2.2.2
    rw [← he, h.r_.2] at this; cases this
  have r3 : M3[m0.length]? = some (.live (.slice a n n :: hd)) := by
    have := get_lt h.r_.1
    rw [a4 _ (by omega) rne]; exact hgM.get h.r_.1
  refine ⟨M3, a1, r3, ?_⟩
  let lab' : Nat → Option Lab := fun p => if p = M2.length + 1 then some .blocks else if M.length ≤ p then (lb p).map (Lab.of n) else if a = some ⟨p, 0, some 5⟩ then none else lab p
  let g' : RG := ⟨M2.length + 1, upd g.L n L, upd g.N n N, upd g.T n T, upd g.A n av⟩
  have lold : ∀ p, p < M.length → a ≠ some ⟨p, 0, some 5⟩ → lab' p = lab p := fun p hp ha => by
    show (if _ then _ else _) = _
    rw [if_neg (by omega), if_neg (by omega), if_neg ha]
  have lnew : ∀ p o, lb p = some o → lab' p = some (.of n o) := fun p o hp => by
    have := hnew p (by rw [hp]; simp)
    show (if _ then _ else _) = _
    rw [if_neg (by omega), if_pos this.1, hp]; rfl
  have keep : ∀ p o, M[p]? = some o → a ≠ some ⟨p, 0, some 5⟩ → p ≠ m0.length → (wr M3 m0.length (.slice (some ⟨M2.length + 1, 0, some 5⟩) (n + 1) (n + 1) :: hd))[p]? = some o := fun p o hp ha hn => by
    have := get_lt hp
    rw [wr_ne (Ne.symm hn), a4 p (by omega) fun b hb he => ha (by rw [he]; exact hb)]; exact hgM.get hp
  have keep2 : ∀ p o, M2[p]? = some o → M.length ≤ p → (wr M3 m0.length (.slice (some ⟨M2.length + 1, 0, some 5⟩) (n + 1) (n + 1) :: hd))[p]? = some o := fun p o hp hle => by
    have := get_lt hp
    have := get_lt h.r_.1
    rw [wr_ne (by omega), a4 p (by omega) fun b hb he => by have := (qlt b hb).2.2.1; omega]; exact get_grow hp
  have notq : ∀ p o, lab p = some o → o ≠ .blocks → a ≠ some ⟨p, 0, some 5⟩ := fun p o hp ho ha => by
    have := (qlt p ha).2.2.2
    rw [hp] at this; cases this; exact ho rfl
  have notr : ∀ p o, lab p = some o → o ≠ .chip → p ≠ m0.length := fun p o hp ho he => by
    rw [he, h.r_.2] at hp; cases hp; exact ho rfl
  refine ⟨lab', g', ⟨a5.wr (Nat.le_refl _) _, ⟨wr_get r3, ?_⟩, .inr ⟨rfl, ?_, ?_⟩, fun i h0 h1 => ?_, fun i j h0 h1 h2 h3 => ?_, fun i j h0 h1 h2 h3 => ?_, fun i h0 h1 => ?_, fun p hp => ?_⟩⟩
  · rw [lold _ (get_lt h.r_.1) (fun hb => rne _ hb rfl)]; exact h.r_.2
  · have := get_lt h.r_.1
    show (wr M3 m0.length _)[M2.length + 1]? = _
    rw [wr_ne (by omega), a3, farr_succ]
    congr 3
    · refine farr_congr fun i _ h1 => ?_
      show _ = rblk (upd g.L n L i) (upd g.A n av i) (σ.b i)
      rw [upd_ne (by omega), upd_ne (by omega)]
    · show _ = rblk (upd g.L n L n) (upd g.A n av n) (σ.b n)
      rw [upd_same, upd_same]
  · show (if _ then _ else _) = _
    rw [if_pos rfl]
  · by_cases hi : i = (n : Int)
    · subst hi
      show (wr M3 m0.length _)[upd g.L n L n]? = some (.live (farr 32 fun j => rch (upd g.N n N n j) (upd g.T n T n j) ((σ.b n).ch j))) ∧ lab' (upd g.L n L n) = _
      rw [upd_same, upd_same, upd_same]
      exact ⟨keep2 _ _ hL.1 (hnew _ (by rw [hL.2]; simp)).1, lnew _ _ hL.2⟩
    · have := h.l_ i h0 (by omega)
      show (wr M3 m0.length _)[upd g.L n L i]? = some (.live (farr 32 fun j => rch (upd g.N n N i j) (upd g.T n T i j) ((σ.b i).ch j))) ∧ lab' (upd g.L n L i) = _
      rw [upd_ne hi, upd_ne hi, upd_ne hi]
      have q1 := notq _ _ this.2 (by simp)
      exact ⟨keep _ _ this.1 q1 (notr _ _ this.2 (by simp)), by rw [lold _ (get_lt this.1) q1]; exact this.2⟩
  · by_cases hi : i = (n : Int)
    · subst hi
      show (wr M3 m0.length _)[(upd g.N n N n j).1]? = _ ∧ lab' (upd g.N n N n j).1 = _
      rw [upd_same]
      have := hN j h2 h3
      exact ⟨keep2 _ _ this.1 (hnew _ (by rw [this.2]; simp)).1, lnew _ _ this.2⟩
    · have := h.n_ i j h0 (by omega) h2 h3
      show (wr M3 m0.length _)[(upd g.N n N i j).1]? = _ ∧ lab' (upd g.N n N i j).1 = _
      rw [upd_ne hi]
      have q1 := notq _ _ this.2 (by simp)
      exact ⟨keep _ _ this.1 q1 (notr _ _ this.2 (by simp)), by rw [lold _ (get_lt this.1) q1]; exact this.2⟩
  · by_cases hi : i = (n : Int)
    · subst hi
      show (wr M3 m0.length _)[(upd g.T n T n j).1]? = _ ∧ lab' (upd g.T n T n j).1 = _
      rw [upd_same]
      have := hT j h2 h3
      exact ⟨keep2 _ _ this.1 (hnew _ (by rw [this.2]; simp)).1, lnew _ _ this.2⟩
    · have := h.t_ i j h0 (by omega) h2 h3
      show (wr M3 m0.length _)[(upd g.T n T i j).1]? = _ ∧ lab' (upd g.T n T i j).1 = _
      rw [upd_ne hi]
      have q1 := notq _ _ this.2 (by simp)
      exact ⟨keep _ _ this.1 q1 (notr _ _ this.2 (by simp)), by rw [lold _ (get_lt this.1) q1]; exact this.2⟩
  · show AtOk σ.steps (upd g.A n av i) _
    by_cases hi : i = (n : Int)
    · subst hi; rw [upd_same]; exact hA
    · rw [upd_ne hi]; exact h.at_ i h0 (by omega)
  · rw [wr_len, a2]
    have hp : (if p = M2.length + 1 then some Lab.blocks else if M.length ≤ p then (lb p).map (Lab.of n) else if a = some ⟨p, 0, some 5⟩ then none else lab p) ≠ none := hp
    split at hp
    · omega
    · split at hp
      · have := hnew p (fun h => hp (by rw [h]; rfl)); omega
      · split at hp
        · exact absurd rfl hp
        · have := h.new p hp; omega

theorem refNew_ok (k : Nat) (hk : 64 < k) (m0 : Mem) : Ok (patinaref05_New k m0) fun x => x.1 = some ⟨m0.length, 0, none⟩ ∧ ∃ lab g, RefX x.2 m0.length lab g fresh ∧ Gr m0 x.2 ∧ ∀ p, lab p ≠ none → m0.length ≤ p := by
  unfold patinaref05_New
  simp (disch := omega) only [Option.bind_some, Option.map_some, cond_true, cond_false, wrap_i64, tmod_pos, tdiv_pos, inRange_yes, inUpto_yes, isZero_no, decide_eq_true, decide_eq_false, Bool.not_true, Bool.not_false, Int.toNat_natCast, Nat.mul_one, beqI_yes, beqI_no, bneI_yes, bneI_no, isNil_nil, isNil_iface, wr_wr, Option.isNone_none, Option.isNone_some, plus, Nat.zero_add, Nat.add_zero]
  refine patinaref05_New_l0_rule k _ (fun r x1 x2 M => (⟨m0.length, 0, none⟩ : Addr) = x1 ∧ ∃ (n : Nat) (a : Option Addr) (lab : Nat → Option Lab) (g : RG), x2 = n ∧ n + r = 12 ∧ Nw m0 M n a lab g fresh [.bool true, .int .i64 (-1), .int .i64 0]) ?_ k 12 _ _ _ (by omega)
    ⟨rfl, 0, none, fun p => if p = m0.length then some .chip else none, ⟨0, fun _ => 0, fun _ _ => (0, false), fun _ _ => (0, false), fun _ => 0⟩, rfl, rfl, ⟨Gr.app _ _, ⟨get_last rfl, if_pos rfl⟩, .inl ⟨rfl, rfl⟩, fun i h0 h1 => by omega, fun i j h0 h1 => by omega, fun i j h0 h1 => by omega, fun i h0 h1 => by omega, fun p hp => by
      by_cases q1 : p = m0.length
      · subst q1; simp
      · exact absurd (if_neg q1) hp⟩⟩
  rintro r nx _ _ M ⟨rfl, n, a, lab, g, rfl, hr, hN⟩ hnx
  unfold patinaref05_New_l0_b
  by_cases hn : (n : Int) < 12
  · have e1 : ldSl M ⟨m0.length, 0, none⟩ = some ⟨a, n, n⟩ := ldSl_of hN.r_.1 rfl
    simp (disch := omega) only [Option.bind_some, Option.map_some, cond_true, cond_false, wrap_i64, tmod_pos, tdiv_pos, inRange_yes, inUpto_yes, isZero_no, decide_eq_true, decide_eq_false, Bool.not_true, Bool.not_false, Int.toNat_natCast, Nat.mul_one, beqI_yes, beqI_no, bneI_yes, bneI_no, isNil_nil, isNil_iface, wr_wr, Option.isNone_none, Option.isNone_some, plus, Nat.zero_add, Nat.add_zero, decide_eq_true hn, e1]
    refine .bind (refChunks_ok k hk M) ?_
    rintro ⟨_, M2⟩ ⟨a', lb, N, T, rfl, hC⟩
    simp only at hC ⊢
    rcases hC.row with ⟨_, h0⟩ | ⟨L, rfl, hL1, hL2, hL3⟩
    · omega
    obtain ⟨M3, a1, a2, lab', g', a3⟩ := hN.next (L := L) (N := N) (T := T) (av := -1) (lb := lb) (sp := none) hC.gr ⟨hL2, hL3⟩ hC.n_ hC.t_ ⟨.inl rfl, by omega, by omega⟩ hC.new (by omega)
    have hlit : ([Value.slice (some ⟨L, 0, some 4⟩) 32 32, .int .i64 0, .bool false, .int .i64 (-1), .bool false] : List Value) = rblk L (-1) (fresh.b n) := rfl
    have r5 : rdSl (M2 ++ [.live (rblk L (-1) (fresh.b n))]) (some ⟨M2.length, 0, none⟩) 1 5 = some (rblk L (-1) (fresh.b n)) := rdSl_all (get_last rfl) rfl
    have s1 := st_wr (sp := none) (off := 0) (v := .slice (some ⟨M2.length + 1, 0, some 5⟩) (n + 1) (n + 1)) a2 (by simp)
    have hset : (Value.slice a n n :: [.bool true, .int .i64 (-1), .int .i64 0]).set 0 (.slice (some ⟨M2.length + 1, 0, some 5⟩) (n + 1) (n + 1)) = .slice (some ⟨M2.length + 1, 0, some 5⟩) (n + 1) (n + 1) :: [.bool true, .int .i64 (-1), .int .i64 0] := rfl
    rw [hset] at s1
    have e2 : ldSl M2 ⟨m0.length, 0, none⟩ = some ⟨a, n, n⟩ := ldSl_of (hC.gr.get hN.r_.1) rfl
    have e3 : ldSl (M2 ++ [.live (rblk L (-1) (fresh.b n))]) ⟨m0.length, 0, none⟩ = some ⟨a, n, n⟩ := ldSl_of (get_grow (hC.gr.get hN.r_.1)) rfl
    have nb : Nat.beq n n = true := Nat.beq_refl n
    simp (disch := omega) only [Option.bind_some, Option.map_some, cond_true, cond_false, wrap_i64, tmod_pos, tdiv_pos, inRange_yes, inUpto_yes, isZero_no, decide_eq_true, decide_eq_false, Bool.not_true, Bool.not_false, Int.toNat_natCast, Nat.mul_one, beqI_yes, beqI_no, bneI_yes, bneI_no, isNil_nil, isNil_iface, wr_wr, Option.isNone_none, Option.isNone_some, plus, Nat.zero_add, Nat.add_zero, hlit, r5, a1, s1, e2, e3, nb, Bool.and_self, decide_true]
    exact hnx (r - 1) _ _ _ (by omega) ⟨rfl, n + 1, _, lab', g', by omega, by omega, a3⟩
  · obtain rfl : n = 12 := by omega
    simp (disch := omega) only [Option.bind_some, Option.map_some, cond_true, cond_false, wrap_i64, tmod_pos, tdiv_pos, inRange_yes, inUpto_yes, isZero_no, decide_eq_true, decide_eq_false, Bool.not_true, Bool.not_false, Int.toNat_natCast, Nat.mul_one, beqI_yes, beqI_no, bneI_yes, bneI_no, isNil_nil, isNil_iface, wr_wr, Option.isNone_none, Option.isNone_some, plus, Nat.zero_add, Nat.add_zero]
    exact .some ⟨rfl, lab, g, hN.done, hN.gr, fun p hp => (hN.new p hp).1⟩
end Go.Proofs.Ytchonnaoojpdoaa

/- What is done with a chip keeps it well. -/
set_option linter.unusedVariables false
set_option linter.unusedSectionVars false
set_option linter.unusedSimpArgs false
namespace Go.Proofs.Ytchonnaoojpdoaa
open Go.Mx

theorem Wf.mono {n n' : Nat} {σ : ChipS} (h : Wf n σ) (hn : n ≤ n') : Wf n' σ := ⟨by have := h.steps; omega, h.bud, fun x => by have := h.rd x; omega, h.bf, h.by_, h.ws⟩
theorem damage_blank : blank.damage = 0 := by
  unfold ChunkS.damage blank
  have : ∀ n, cntNe (fun _ => 255) (fun _ => 255) n = 0 := by
    intro n
    induction n with
    | zero => rfl
    | succ n ih => rw [cntNe_succ, ih]; simp
  exact this 64
theorem damage_same (f : Int → Int) (is : Bool) (w : Int) : (⟨f, f, is, w⟩ : ChunkS).damage = 0 := by
  show cntNe f f 64 = 0
  have : ∀ n, cntNe f f n = 0 := by
    intro n
    induction n with
    | zero => rfl
    | succ n ih => rw [cntNe_succ, ih]; simp
  exact this 64
theorem damage_le (c : ChunkS) : 0 ≤ c.damage ∧ c.damage ≤ 64 := by
  have := cntNe_le c.now c.tru 64
  exact this
theorem byt255 : Byt fun _ => 255 := .const (v := 255) (by decide) (by decide)
theorem Wf.fresh : Wf 0 fresh := ⟨⟨by decide, by decide⟩, ⟨by decide, by decide⟩, fun x => ⟨Int.le_refl 0, Int.le_refl 0⟩, fun x => ⟨Int.le_refl 0, by show (0 : Int) < 9223372036854775808; decide⟩,
  fun x j => ⟨byt255, byt255⟩, fun x j => ⟨by show blank.damage ≤ 0; rw [damage_blank]; decide, by show (0 : Int) ≤ 64; decide⟩⟩
/-- a block is another one -/
theorem Wf.updB {n : Nat} {σ : ChipS} (h : Wf n σ) {x : Int} {β : BlockS} (h1 : 0 ≤ β.reads ∧ β.reads ≤ n) (h2 : 0 ≤ β.before ∧ β.before < 9223372036854775808) (h3 : ∀ j, Byt (β.ch j).now ∧ Byt (β.ch j).tru) (h4 : ∀ j, (β.ch j).damage ≤ (β.ch j).worst ∧ (β.ch j).worst ≤ 64) : Wf n (σ.updB x β) := by
  refine ⟨h.steps, h.bud, fun y => ?_, fun y => ?_, fun y j => ?_, fun y j => ?_⟩ <;> unfold ChipS.updB Mx.upd <;> simp only <;> split
  · exact h1
  · exact h.rd y
  · exact h2
  · exact h.bf y
  · exact h3 j
  · exact h.by_ y j
  · exact h4 j
  · exact h.ws y j
theorem Wf.put {n : Nat} {σ : ChipS} (h : Wf n σ) {p k : Int} {c : ChunkS} (h3 : Byt c.now ∧ Byt c.tru) (h4 : c.damage ≤ c.worst ∧ c.worst ≤ 64) : Wf n (σ.put p k c) := by
  refine h.updB (h.rd _) (h.bf _) (fun j => ?_) fun j => ?_ <;> unfold BlockS.updC Mx.upd <;> simp only <;> split
  · exact h3
  · exact h.by_ _ j
  · exact h4
  · exact h.ws _ j
theorem Wf.step {n : Nat} {σ : ChipS} (h : Wf n σ) : Wf (n + 1) σ.step.2 := by
  have h1 := h.steps
  have h2 := h.bud
  have h3 := fun x => h.rd x
  unfold ChipS.step
  split
  · split
    · exact ⟨by simp only; omega, h.bud, fun x => by have := h3 x; simp only; omega, h.bf, h.by_, h.ws⟩
    · exact ⟨by simp only; omega, by simp only; omega, fun x => by have := h3 x; simp only; omega, h.bf, h.by_, h.ws⟩
  · exact ⟨by simp only; omega, h.bud, fun x => by have := h3 x; simp only; omega, h.bf, h.by_, h.ws⟩
theorem Wf.worn {n : Nat} {σ : ChipS} (h : Wf n σ) (x : Int) : Wf n (σ.updB x (σ.b x).worn) := by
  have hb := h.bf x
  refine h.updB ?_ ?_ ?_ ?_ <;> unfold BlockS.worn <;> split
  · exact h.rd x
  · exact h.rd x
  · simp only; omega
  · exact h.bf x
  · exact h.by_ x
  · exact h.by_ x
  · exact h.ws x
  · exact h.ws x
theorem Wf.write {n : Nat} {σ : ChipS} (h : Wf n σ) (p q : Int) (l : Nat) (w : Nat → GF) : Wf (n + 1) (σ.write p q l (byI w)).2 := by
  have h0 := h.mono (Nat.le_succ n)
  unfold ChipS.write
  split
  · exact h0
  split
  · exact h0
  split
  · exact h0
  split
  · exact h0
  split
  · exact h.step
  split
  · exact h.step.worn _
  · exact (h.step.worn _).put ⟨.ofW w, .ofW w⟩ (by rw [damage_same]; simp only; omega)
theorem Wf.erase {n : Nat} {σ : ChipS} (h : Wf n σ) (x : Int) : Wf (n + 1) (σ.erase x).2 := by
  have h0 := h.mono (Nat.le_succ n)
  unfold ChipS.erase
  split
  · exact h0
  split
  · exact h0
  split
  · exact h.step
  split
  · exact h.step.updB (h.step.rd x) (h.step.bf x) (h.step.by_ x) (h.step.ws x)
  · exact h.step.updB (by show (0 : Int) ≤ 0 ∧ (0 : Int) ≤ _; omega) (h.step.bf x) (fun j => ⟨byt255, byt255⟩) fun j => ⟨by show blank.damage ≤ 0; rw [damage_blank]; decide, by show (0 : Int) ≤ 64; decide⟩
theorem Wf.flip {n : Nat} {σ : ChipS} (h : Wf n σ) (p b : Int) (hb : 0 ≤ b) : Wf n (σ.flip p b) := by
  have h1 := h.by_ (p / 8) (p % 8 * 4 + b / 512)
  have h2 := h.ws (p / 8) (p % 8 * 4 + b / 512)
  unfold ChipS.flip
  have hd := damage_le (flipC (σ.at_ p (b / 512)) (b / 8 % 64) (b % 8))
  refine h.put ⟨?_, h1.2⟩ ?_
  · have hx := xor_byte ((σ.at_ p (b / 512)).now (b / 8 % 64)) (shlI .u8 1 (b % 8))
    exact Byt.upd h1.1 (by omega) hx.1 hx.2
  · show (flipC (σ.at_ p (b / 512)) (b / 8 % 64) (b % 8)).damage ≤ maxI (σ.at_ p (b / 512)).worst (flipC (σ.at_ p (b / 512)) (b / 8 % 64) (b % 8)).damage ∧ maxI (σ.at_ p (b / 512)).worst (flipC (σ.at_ p (b / 512)) (b / 8 % 64) (b % 8)).damage ≤ 64
    have h3 : (σ.at_ p (b / 512)).worst ≤ 64 := h2.2
    unfold maxI
    split <;> omega
theorem Wf.readd {n : Nat} {σ : ChipS} (h : Wf n σ) (p : Int) : Wf (n + 1) (σ.readd p) := by
  have h1 := h.rd (p / 8)
  have h0 := h.mono (Nat.le_succ n)
  refine h0.updB ?_ (h.bf _) (h.by_ _) (h.ws _)
  show 0 ≤ (σ.b (p / 8)).reads + 1 ∧ (σ.b (p / 8)).reads + 1 ≤ _
  omega
theorem Wf.failE {n : Nat} {σ : ChipS} (h : Wf n σ) (x : Int) : Wf n (σ.updB x { σ.b x with atErase := true }) := h.updB (h.rd _) (h.bf _) (h.by_ _) (h.ws _)
theorem Wf.failP {n : Nat} {σ : ChipS} (h : Wf n σ) (x : Int) {v : Int} (hv : 0 ≤ v) : Wf n (σ.updB x { σ.b x with before := (if v ≤ 9223372036854775806 then v else 9223372036854775806) + 1 }) := by
  refine h.updB (h.rd _) ?_ (h.by_ _) (h.ws _)
  show 0 ≤ (if v ≤ 9223372036854775806 then v else 9223372036854775806) + 1 ∧ (if v ≤ 9223372036854775806 then v else 9223372036854775806) + 1 < 9223372036854775808
  split <;> omega
theorem Wf.cut {n : Nat} {σ : ChipS} (h : Wf n σ) {v : Int} (hv : 0 ≤ v ∧ v < 9223372036854775808) : Wf n (if σ.off = true then σ else { σ with cut := true, budget := v }) := by
  split
  · exact h
  · exact ⟨h.steps, hv, h.rd, h.bf, h.by_, h.ws⟩
theorem Wf.power {n : Nat} {σ : ChipS} (h : Wf n σ) : Wf n { σ with off := false, cut := false, budget := 0 } := ⟨h.steps, by simp only; omega, h.rd, h.bf, h.by_, h.ws⟩
/-- a page's bytes -/
theorem Wf.page {n : Nat} {σ : ChipS} (h : Wf n σ) (p : Int) : ∃ W : Nat → GF, (∀ (q i : Nat), q < 4 → i < 64 → (σ.at_ p q).now i = ((W (q * 64 + i)).v : Int)) ∧ arr .u8 256 (σ.page p) = bys 256 W := by
  have hw : ∀ q : Int, ∃ w : Nat → GF, ∀ i : Int, 0 ≤ i → (σ.at_ p q).now i = byI w i := fun q => (h.by_ (p / 8) (p % 8 * 4 + q)).1
  let W : Nat → GF := fun i => (Classical.choose (hw ((i / 64 : Nat) : Int))) (i % 64)
  have h1 : ∀ (q i : Nat), q < 4 → i < 64 → (σ.at_ p q).now i = ((W (q * 64 + i)).v : Int) := fun q i hq hi => by
    have := Classical.choose_spec (hw (q : Int)) i (by omega)
    rw [this]
    show _ = (((Classical.choose (hw (((q * 64 + i) / 64 : Nat) : Int))) ((q * 64 + i) % 64)).v : Int)
    rw [show (q * 64 + i) / 64 = q by omega, show (q * 64 + i) % 64 = i by omega]
    rfl
  refine ⟨W, h1, arr_congr fun i h0 h2 => ?_⟩
  obtain ⟨j, rfl⟩ := Int.eq_ofNat_of_zero_le h0
  have h2 : j < 256 := by omega
  have := h1 (j / 64) (j % 64) (by omega) (by omega)
  show (σ.at_ p ((j : Int) / 64)).now ((j : Int) % 64) = ((W ((j : Int)).toNat).v : Int)
  rw [show ((j : Int) / 64) = ((j / 64 : Nat) : Int) by omega, show ((j : Int) % 64) = ((j % 64 : Nat) : Int) by omega, this, Int.toNat_natCast, show j / 64 * 64 + j % 64 = j by omega]
/-- all objects of a memory but one -/
def others (m : Mem) (c : Nat) : Heap := ((List.range m.length).filter fun p => p != c).map fun p => (p, m.getD p .dead)
theorem others_get {m : Mem} {c p : Nat} (hp : p < m.length) (hc : p ≠ c) : ∃ i : Nat, (others m c)[i]? = some (p, m.getD p .dead) := by
  have : (p, m.getD p .dead) ∈ others m c := List.mem_map.2 ⟨p, List.mem_filter.2 ⟨List.mem_range.2 hp, by simpa using hc⟩, rfl⟩
  obtain ⟨i, hi⟩ := List.mem_iff_getElem?.1 this
  exact ⟨i, hi⟩
theorem getD_get {m : Mem} {p : Nat} (hp : p < m.length) : m[p]? = some (m.getD p .dead) := by
  rw [List.getD_eq_getElem?_getD, List.getElem?_eq_getElem hp]; rfl
theorem others_nd (m : Mem) (c : Nat) : ((others m c).map (·.1)).Nodup := by
  unfold others
  rw [List.map_map]
  have : ((fun x : Nat × MObj => x.1) ∘ fun p => (p, m.getD p .dead)) = id := rfl
  rw [this, List.map_id]
  exact List.nodup_range.sublist List.filter_sublist
theorem own_all {m : Mem} {c : Nat} {o : MObj} (h : m[c]? = some o) : Mx.Own m ((c, o) :: others m c) := by
  refine ⟨?_, ?_⟩
  · rw [List.map_cons, List.nodup_cons]
    refine ⟨fun hm => ?_, others_nd m c⟩
    obtain ⟨x, hx, he⟩ := List.mem_map.1 hm
    obtain ⟨p, hp, rfl⟩ := List.mem_map.1 hx
    have := (List.mem_filter.1 hp).2
    simp only at he
    simp [he] at this
  · intro x hx
    rcases List.mem_cons.1 hx with rfl | hx
    · exact h
    · obtain ⟨p, hp, rfl⟩ := List.mem_map.1 hx
      exact getD_get (List.mem_range.1 (List.mem_filter.1 hp).1)
theorem own_none (m : Mem) : Mx.Own m (others m m.length) := by
  refine ⟨others_nd m _, fun x hx => ?_⟩
  obtain ⟨p, hp, rfl⟩ := List.mem_map.1 hx
  exact getD_get (List.mem_range.1 (List.mem_filter.1 hp).1)
theorem Own.keeps {m m' : Mem} {c : Nat} {X : Heap} (h : Mx.Own m' (X ++ others m c)) : ∀ p, p < m.length → p ≠ c → m'[p]? = m[p]? := fun p hp hc => by
  obtain ⟨i, hi⟩ := others_get hp hc
  rw [h.back.at i hi, getD_get hp]
theorem Own.far {m m' : Mem} {c d : Nat} {o : MObj} {X : Heap} (h : Mx.Own m' ((d, o) :: (X ++ others m c))) (hc : ∀ x ∈ X, x.1 = c → True) : ∀ p, p < m.length → p ≠ c → d ≠ p := fun p hp hc he => by
  obtain ⟨i, hi⟩ := others_get hp hc
  have hmem : (p, m.getD p .dead) ∈ X ++ others m c := List.mem_append_right _ (List.mem_of_getElem? hi)
  have := h.nd
  rw [List.map_cons, List.nodup_cons] at this
  exact this.1 (List.mem_map.2 ⟨_, hmem, he.symm⟩)
theorem keeps_len {m m' : Mem} {c : Nat} (h : ∀ p, p < m.length → p ≠ c → m'[p]? = m[p]?) (hc : m.length ≤ c ∨ c < m'.length) : m.length ≤ m'.length := by
  rcases Nat.lt_or_ge m'.length m.length with h1 | h1
  · exfalso
    by_cases h2 : m.length - 1 = c
    · omega
    · have := h (m.length - 1) (by omega) h2
      rw [List.getElem?_eq_none (by omega), List.getElem?_eq_getElem (by omega)] at this
      cases this
  · exact h1
end Go.Proofs.Ytchonnaoojpdoaa

/- A chip's functions for all arguments. -/
set_option linter.unusedVariables false
set_option linter.unusedSectionVars false
set_option linter.unusedSimpArgs false
namespace Go.Proofs.Ytchonnaoojpdoaa
open Go.Mx

theorem chipRead_no (k : Nat) {m : Mem} {c : Nat} {p : Int} (hp : ¬ (0 ≤ p ∧ p < 96)) : nand_Chip_Read k (some ⟨c, 0, none⟩) p m = some (⟨none, 0, 0⟩, errC 1, m) := by
  unfold nand_Chip_Read
  rw [nand_at_is, if_neg (by unfold isAt; omega)]
  simp (disch := omega) only [Option.bind_some, Option.map_some, cond_true, cond_false, wrap_i64, tmod_pos, tdiv_pos, inRange_yes, inUpto_yes, isZero_no, decide_eq_true, decide_eq_false, Bool.not_true, Bool.not_false, Int.toNat_natCast, Nat.mul_one, beqI_yes, beqI_no, bneI_yes, bneI_no, isNil_nil, isNil_iface, wr_wr, Option.isNone_none, Option.isNone_some, plus, Nat.zero_add, Nat.add_zero, isNil_errC]
theorem chipRead_all (k : Nat) (hk : 100 < k) {n : Nat} {m : Mem} {c : Nat} {σ : ChipS} (h : m[c]? = some (.live (chipC σ))) (hw : Wf n σ) (hn : n < 4000000000000) (p : Int) :
    ∃ (R0 : RA) (n0 : Nat) (w0 : Nat → GF) (e : Int) (σ' : ChipS) (m' : Mem), nand_Chip_Read k (some ⟨c, 0, none⟩) p m = some (⟨rowA R0, n0, n0⟩, errC e, m') ∧ m'[c]? = some (.live (chipC σ')) ∧ m.length ≤ m'.length ∧ (∀ p, p < m.length → p ≠ c → m'[p]? = m[p]?) ∧
      RowLive m' R0 n0 n0 (fun u => ∀ k, k < n0 → u k = w0 k) ∧ (∀ D, rowD R0 = some D → m.length ≤ D) ∧ n0 < 1000 ∧ 0 ≤ e ∧ e < 20 ∧ Wf (n + 1) σ' ∧
      ((¬ (0 ≤ p ∧ p < 96) ∧ R0 = none ∧ n0 = 0 ∧ e = 1 ∧ σ' = σ) ∨ ((0 ≤ p ∧ p < 96) ∧ σ.off = true ∧ R0 = none ∧ n0 = 0 ∧ e = 7 ∧ σ' = σ) ∨
        ((0 ≤ p ∧ p < 96) ∧ σ.off = false ∧ (∃ D, R0 = some (D, false)) ∧ n0 = 256 ∧ e = 0 ∧ σ' = σ.readd p ∧ (∀ (q i : Nat), q < 4 → i < 64 → (σ.at_ p q).now i = ((w0 (q * 64 + i)).v : Int)))) := by
  by_cases hp : 0 ≤ p ∧ p < 96
  · cases ho : σ.off with
    | true => exact ⟨none, 0, fun _ => 0, 7, σ, m, chipRead_off k h hp.1 hp.2 ho, h, Nat.le_refl _, fun _ _ _ => rfl, rfl, (fun D h => nomatch h), by omega, by omega, by omega, hw.mono (by omega), .inr (.inl ⟨hp, rfl, rfl, rfl, rfl, rfl⟩)⟩
    | false =>
      have hr := hw.rd (p / 8)
      obtain ⟨W, h1, h2⟩ := hw.page p
      obtain ⟨⟨sl, e, m'⟩, e1, d, rfl, rfl, hO⟩ := chipRead_ok k hk (own_all h) hp.1 hp.2 ho ⟨hr.1, by omega⟩
      simp only at hO
      have hc' := hO.at 1 rfl
      have hd' := hO.at 0 rfl
      have hne : d ≠ c := by
        intro he
        have := hO.nd
        rw [List.map_cons, List.nodup_cons] at this
        exact this.1 (by rw [List.map_cons]; simp [he])
      have hk' := Own.keeps (m := m) (c := c) (X := [(d, .live (arr .u8 256 (σ.page p))), (c, .live (chipC (σ.readd p)))]) hO
      have hln := keeps_len hk' (.inr (get_lt hc'))
      have hdl : m.length ≤ d := by
        rcases Nat.lt_or_ge d m.length with h3 | h3
        · exact absurd rfl (Own.far (m := m) (c := c) (d := d) (X := [(c, .live (chipC (σ.readd p)))]) hO (fun _ _ _ => trivial) d h3 hne)
        · exact h3
      rw [h2] at hd'
      exact ⟨some (d, false), 256, W, 0, σ.readd p, m', e1, hc', hln, hk', ⟨W, hd', fun _ _ => rfl, Nat.le_refl _, fun _ => rfl⟩, (fun D h => by cases h; exact hdl), by omega, by omega, by omega, hw.readd p, .inr (.inr ⟨hp, rfl, ⟨d, rfl⟩, rfl, rfl, rfl, h1⟩)⟩
  · exact ⟨none, 0, fun _ => 0, 1, σ, m, chipRead_no k hp, h, Nat.le_refl _, fun _ _ _ => rfl, rfl, (fun D h => nomatch h), by omega, by omega, by omega, hw.mono (by omega), .inl ⟨hp, rfl, rfl, rfl, rfl⟩⟩
theorem nand_Flip_all (k : Nat) (hk : 64 < k) {m : Mem} {c : Nat} {σ : ChipS} (h : m[c]? = some (.live (chipC σ))) (p b : Int) :
    nand_Chip_Flip k (some ⟨c, 0, none⟩) p b m = some (errC (if 0 ≤ p ∧ p < 96 ∧ 0 ≤ b ∧ b < 2048 then 0 else 1), wr m c (chipC (if 0 ≤ p ∧ p < 96 ∧ 0 ≤ b ∧ b < 2048 then σ.flip p b else σ))) := by
  by_cases hh : 0 ≤ p ∧ p < 96 ∧ 0 ≤ b ∧ b < 2048
  · rw [if_pos hh, if_pos hh]
    exact nand_Flip_is k hk h hh.1 hh.2.1 hh.2.2.1 hh.2.2.2
  · rw [if_neg hh, if_neg hh, wr_same h]
    unfold nand_Chip_Flip
    by_cases h0 : b < 0
    · simp (disch := omega) only [Option.bind_some, Option.map_some, cond_true, cond_false, wrap_i64, tmod_pos, tdiv_pos, inRange_yes, inUpto_yes, isZero_no, decide_eq_true, decide_eq_false, Bool.not_true, Bool.not_false, Int.toNat_natCast, Nat.mul_one, beqI_yes, beqI_no, bneI_yes, bneI_no, isNil_nil, isNil_iface, wr_wr, Option.isNone_none, Option.isNone_some, plus, Nat.zero_add, Nat.add_zero, decide_eq_true h0]; rfl
    · by_cases h1 : b ≥ 2048
      · simp (disch := omega) only [Option.bind_some, Option.map_some, cond_true, cond_false, wrap_i64, tmod_pos, tdiv_pos, inRange_yes, inUpto_yes, isZero_no, decide_eq_true, decide_eq_false, Bool.not_true, Bool.not_false, Int.toNat_natCast, Nat.mul_one, beqI_yes, beqI_no, bneI_yes, bneI_no, isNil_nil, isNil_iface, wr_wr, Option.isNone_none, Option.isNone_some, plus, Nat.zero_add, Nat.add_zero, decide_eq_false h0, decide_eq_true h1]; rfl
      · have hq : IntKind.wrap .i64 (Int.tdiv (IntKind.wrap .i64 (Int.tdiv b 8)) 64) = b / 512 := by simp (disch := omega) only [Option.bind_some, Option.map_some, cond_true, cond_false, wrap_i64, tmod_pos, tdiv_pos, inRange_yes, inUpto_yes, isZero_no, decide_eq_true, decide_eq_false, Bool.not_true, Bool.not_false, Int.toNat_natCast, Nat.mul_one, beqI_yes, beqI_no, bneI_yes, bneI_no, isNil_nil, isNil_iface, wr_wr, Option.isNone_none, Option.isNone_some, plus, Nat.zero_add, Nat.add_zero]; omega
        rw [hq, nand_at_is, if_neg (by unfold isAt; omega)]
        simp (disch := omega) only [Option.bind_some, Option.map_some, cond_true, cond_false, wrap_i64, tmod_pos, tdiv_pos, inRange_yes, inUpto_yes, isZero_no, decide_eq_true, decide_eq_false, Bool.not_true, Bool.not_false, Int.toNat_natCast, Nat.mul_one, beqI_yes, beqI_no, bneI_yes, bneI_no, isNil_nil, isNil_iface, wr_wr, Option.isNone_none, Option.isNone_some, plus, Nat.zero_add, Nat.add_zero, decide_eq_false h0, decide_eq_false h1, isNil_errC]
theorem step_code (σ : ChipS) : 0 ≤ σ.step.1 ∧ σ.step.1 < 20 := by unfold ChipS.step; split <;> (try split) <;> simp
theorem write_code (σ : ChipS) (p q : Int) (n : Nat) (f : Int → Int) : 0 ≤ (σ.write p q n f).1 ∧ (σ.write p q n f).1 < 20 := by
  have := step_code σ
  unfold ChipS.write
  repeat' split
  all_goals first | exact this | (simp only; omega)
theorem erase_code (σ : ChipS) (x : Int) : 0 ≤ (σ.erase x).1 ∧ (σ.erase x).1 < 20 := by
  have := step_code σ
  unfold ChipS.erase
  repeat' split
  all_goals first | exact this | (simp only; omega)

theorem own_gr {m m' : Mem} (h : Mx.Own m' (others m m.length)) : Gr m m' := by
  have hk := Own.keeps (m := m) (c := m.length) (X := []) h
  exact Ch.gr ⟨keeps_len hk (.inl (Nat.le_refl _)), fun p hp _ => hk p hp (by omega)⟩
theorem newG (k : Nat) (hk : 100 < k) (m : Mem) : Ok (nand_New k m) fun r => ∃ c, r.1 = some ⟨c, 0, none⟩ ∧ Gr m r.2 ∧ m.length ≤ c ∧ r.2[c]? = some (.live (chipC fresh)) := by
  refine (chipNew_ok k hk (own_none m)).mono ?_
  rintro ⟨_, m'⟩ ⟨c, rfl, hO⟩
  simp only at hO
  refine ⟨c, rfl, own_gr hO.tail, ?_, hO.at 0 rfl⟩
  rcases Nat.lt_or_ge c m.length with h3 | h3
  · exact absurd rfl (Own.far (m := m) (c := m.length) (d := c) (X := []) hO (fun _ _ _ => trivial) c h3 (by omega))
  · exact h3
end Go.Proofs.Ytchonnaoojpdoaa

/- The media: a page that is read. -/
set_option linter.unusedVariables false
set_option linter.unusedSectionVars false
set_option linter.unusedSimpArgs false
namespace Go.Proofs.Ytchonnaoojpdoaa
open Go.Mx

theorem Frm.keep {m m' : Mem} {f : Nat} (h : Frm m f) (hk : ∀ (p : Nat) (cs : List Value), m[p]? = some (MObj.live cs) → cs.length ≠ 3 → cs.length ≠ 49972 → m'[p]? = m[p]?) : Frm m' f := by
  obtain ⟨cd, h1, g, b, h2, h3, h4⟩ := h
  refine ⟨cd, ?_, g, b, ?_, ?_, ?_⟩
  · rw [hk f _ h1 (by simp) (by simp)]; exact h1
  · rw [hk cd _ h2 (by simp) (by simp)]; exact h2
  · have e : fldR.length = 769 := by unfold fldR; rw [fieldC_len]
    rw [hk g _ h3 (by rw [e]; omega) (by rw [e]; omega)]; exact h3
  · rw [hk b _ h4 (by rw [bys_len]; omega) (by rw [bys_len]; omega)]; exact h4
def medC (c f : Nat) (n : Int) : List Value := [.pointer (some ⟨c, 0, none⟩), .pointer (some ⟨f, 0, none⟩), .int .i64 n]
/-- a media -/
structure MI (M : Mem) (mm c f : Nat) (σ : ChipS) (n : Int) : Prop where
  med : M[mm]? = some (.live (medC c f n))
  chip : M[c]? = some (.live (chipC σ))
  frm : Frm M f
theorem MI.ne {M : Mem} {mm c f : Nat} {σ : ChipS} {n : Int} (h : MI M mm c f σ n) : mm ≠ c := fun he => by
  have h1 := h.med
  rw [he, h.chip] at h1
  simp only [Option.some.injEq, MObj.live.injEq] at h1
  have := congrArg List.length h1
  rw [chipC_len] at this
  simp [medC] at this
theorem MI.grow {M M' : Mem} {mm c f : Nat} {σ : ChipS} {n : Int} (h : MI M mm c f σ n) (hg : Gr M M') : MI M' mm c f σ n := ⟨hg.get h.med, hg.get h.chip, h.frm.grow hg⟩
/-- what a call on a media may change -/
def Cm (c mm : Nat) (m m' : Mem) : Prop := Ch (fun p => p = c ∨ p = mm) m m'
theorem MI.step {M M' : Mem} {mm c f : Nat} {σ σ' : ChipS} {n n' : Int} (h : MI M mm c f σ n) (hc : Cm c mm M M') (h1 : M'[c]? = some (.live (chipC σ'))) (h2 : M'[mm]? = some (.live (medC c f n'))) : MI M' mm c f σ' n' := by
  refine ⟨h2, h1, h.frm.keep fun p cs hp h3 h4 => hc.get p (get_lt hp) ?_⟩
  rintro (rfl | rfl)
  · rw [h.chip] at hp; cases hp; exact h4 (chipC_len _)
  · rw [h.med] at hp; cases hp; exact h3 rfl
theorem mediaNew_ok (k : Nat) (hk : 1000 < k) {m : Mem} {c : Nat} {σ : ChipS} (h : m[c]? = some (.live (chipC σ))) : Ok (media_New k (some ⟨c, 0, none⟩) m) fun r => ∃ mm f, r.1 = some ⟨mm, 0, none⟩ ∧ Gr m r.2 ∧ m.length ≤ mm ∧ MI r.2 mm c f σ 0 := by
  unfold media_New
  refine .bind (frameNew_ok k hk m) ?_
  rintro ⟨_, m1⟩ ⟨f, rfl, hg, hf, hF⟩
  simp only at hg hF ⊢
  exact .some ⟨m1.length, f, rfl, hg.trans (Gr.app _ _), hg.len, get_last rfl, get_grow (hg.get h), hF.grow (Gr.app _ _)⟩

/-! ## a page, as it is told -/
structure PgT where
  tagged : Bool
  tag : TagT
  sound : Bool
  n : Nat
  w : Nat → GF
  dmg : Nat
def pgC (p : PgT) (R : RA) : List Value := [.bool p.tagged, .int .i64 p.tag.place, .int .i64 p.tag.of_, .int .i64 p.tag.seq, .int .i64 p.tag.copy, .bool p.tag.lost, .bool p.sound, .slice (rowA R) p.n p.n, .int .i64 (p.dmg : Nat)]
def PgT.no (d : Nat) : PgT := ⟨false, ztag, false, 0, fun _ => 0, d⟩
noncomputable def mxm (W : Nat → GF) : Nat → Nat
  | 0 => 0
  | k + 1 => if (msgS 256 W (k : Int)).e = 0 then max (mxm W k) (msgS 256 W (k : Int)).a else mxm W k
open Classical in
noncomputable def pgS (W : Nat → GF) (p : Int) : PgT :=
  if (bodyS 256 W).e = 0 then (match tagD (bodyS 256 W).w with
    | none => .no (mxm W 4)
    | some t => if t.place = p then (if (dataS 256 W).e = 0 then ⟨true, t, true, (dataS 256 W).n, (dataS 256 W).w, mxm W 4⟩ else ⟨true, t, false, 0, fun _ => 0, mxm W 4⟩) else .no (mxm W 4)) else .no (mxm W 4)
theorem bodyS_n {w : Nat → GF} (h : (bodyS 256 w).e = 0) : (bodyS 256 w).n = 50 := by
  unfold bodyS at *
  rw [if_pos rfl] at *
  split
  · rename_i u a hd
    rw [hd] at h
    simp only at h ⊢
    split
    · rfl
    · rename_i hm; rw [if_neg hm] at h; cases h
  · rename_i hd; rw [hd] at h; cases h
theorem veqs_tag (t : TagT) : veqs (tagC t) (tagC t) = true := by
  simp [veqs, veq1, tagC]
theorem pg_of (p : PgT) : PgT.no p.dmg = ⟨false, ztag, false, 0, fun _ => 0, p.dmg⟩ := rfl

/-- what stands behind a page's reading -/
def Rdd (M : Mem) (mm c f : Nat) (σ : ChipS) (n : Int) (p : Int) (r : List Value × Value × Mem) : Prop :=
  ∃ (W : Nat → GF) (R : RA) (L : Nat), (∀ (q i : Nat), q < 4 → i < 64 → (σ.at_ p q).now i = ((W (q * 64 + i)).v : Int)) ∧ r.1 = pgC (pgS W p) R ∧ r.2.1 = .nilIface ∧
    RowLive r.2.2 R (pgS W p).n L (fun u => ∀ i, i < (pgS W p).n → u i = (pgS W p).w i) ∧ (∀ D, rowD R = some D → M.length ≤ D) ∧ Cm c mm M r.2.2 ∧ r.2.2[c]? = some (.live (chipC (σ.readd p))) ∧ r.2.2[mm]? = some (.live (medC c f (n + 1)))

theorem mediaRead_no (k : Nat) (hk : 1000 < k) {M : Mem} {mm c f N : Nat} {σ : ChipS} {n : Int} (h : MI M mm c f σ n) (hw : Wf N σ) (hN : N < 4000000000000) (p : Int) (hp : ¬ (0 ≤ p ∧ p < 96) ∨ σ.off = true) :
    Ok (media_Media_Read k (some ⟨mm, 0, none⟩) p M) fun r => r.1 = pgC (.no 0) none ∧ r.2.1 = errC (if 0 ≤ p ∧ p < 96 then 7 else 1) ∧ Cm c mm M r.2.2 ∧ r.2.2[c]? = some (.live (chipC σ)) ∧ r.2.2[mm]? = some (.live (medC c f n)) := by
  unfold media_Media_Read
  have hz : ([.bool false, .int .i64 0, .int .i64 0, .int .i64 0, .int .i64 0, .bool false, .bool false, .slice none 0 0, .int .i64 0] : List Value) = pgC (.no 0) none := rfl
  have h1 := h.grow (Gr.app M [.live (pgC (.no 0) none)])
  have z1 : (M ++ [MObj.live (pgC (.no 0) none)])[M.length]? = some (.live (pgC (.no 0) none)) := get_last rfl
  have l1 : ldPtr (M ++ [.live (pgC (.no 0) none)]) ⟨mm, 0, none⟩ = some (some ⟨c, 0, none⟩) := ldPtr_of h1.med rfl
  have gM := Gr.app M [.live (pgC (.no 0) none)]
  have ml : (M ++ [MObj.live (pgC (.no 0) none)]).length = M.length + 1 := by simp
  simp only [hz, Option.bind_some, plus, Nat.zero_add, l1]
  generalize M ++ [.live (pgC (.no 0) none)] = M1 at *
  obtain ⟨R0, n0, w0, e, σ', m2, e1, e2, e3, e4, e5, e6, e7, e8, e9, e10, e11⟩ := chipRead_all k (by omega) h1.chip hw hN p
  have clt := get_lt h.chip
  have mlt := get_lt h.med
  have ee : e = (if 0 ≤ p ∧ p < 96 then 7 else 1) ∧ σ' = σ ∧ m2 = m2 := by
    rcases e11 with ⟨c1, _, _, h2, h3⟩ | ⟨c1, c2, _, _, h2, h3⟩ | ⟨c1, c2, _⟩
    · exact ⟨by rw [if_neg c1, h2], h3, rfl⟩
    · exact ⟨by rw [if_pos c1, h2], h3, rfl⟩
    · rcases hp with h5 | h5
      · exact absurd c1 h5
      · rw [c2] at h5; cases h5
  obtain ⟨rfl, rfl, _⟩ := ee
  have nn : isNil (errC (if 0 ≤ p ∧ p < 96 then 7 else 1)) = some false := by rw [isNil_errC]; split <;> rfl
  have z2 : m2[M.length]? = some (.live (pgC (.no 0) none)) := by rw [e4 _ (by omega) (by omega)]; exact z1
  have st1 : stCells m2 ⟨M.length, 0, none⟩ (pgC (.no 0) none) = some (wr m2 M.length (pgC (.no 0) none)) := stCells_wr z2 (Nat.le_refl _)
  have c1 : ldCells (wr m2 M.length (pgC (.no 0) none)) ⟨M.length, 0, none⟩ 9 = some (pgC (.no 0) none) := by rw [ldCells_of (off := 0) (n := 9) (wr_get z2) (Nat.le_refl _)]; rfl
  simp only [e1, Option.bind_some, nn, Bool.not_false, cond_true, st1, c1]
  refine .some ⟨rfl, rfl, ⟨by rw [wr_len]; omega, fun q hq hn => ?_⟩, ?_, ?_⟩
  · rw [wr_ne (by omega), e4 q (by omega) fun he => hn (.inl he)]
    obtain ⟨g, hg⟩ := gM
    rw [hg]; exact get_app_lt hq
  · rw [wr_ne (by omega)]; exact e2
  · rw [wr_ne (by omega), e4 mm (by omega) h.ne]
    exact gM.get h.med
end Go.Proofs.Ytchonnaoojpdoaa
