/- The frame: a page is read. -/
import Derived.Test.YtmfmoanjecjeeaaFr1
set_option linter.unusedVariables false
set_option linter.unusedSectionVars false
set_option linter.unusedSimpArgs false
namespace Go.Proofs.Ytmfmoanjecjeeaa
open Go.Mx

/-- a word of a page -/
def wd (w : Nat → GF) (i : Nat) : Nat → GF := fun j => w (i * 64 + j)

theorem message_no (k : Nat) {m : Mem} {c : Option Addr} {a : Option Addr} {n ca : Nat} {p : Int} (h : ¬ (n = 256 ∧ 0 ≤ p ∧ p ≤ 3)) : frame_Frame_Message k c a n ca p m = some (⟨none, 0, 0⟩, 0, errC 1, m) := by
  unfold frame_Frame_Message
  rw [errC_pos (by omega)]
  by_cases h1 : n = 256
  · subst h1
    have e1 : (((256 : Nat) : Int) != 256) = false := rfl
    rw [e1, cond_false]
    by_cases h2 : p < 0
    · rw [decide_eq_true h2, cond_true]
    · rw [decide_eq_false h2, cond_false, decide_eq_true (show p > 3 by omega), cond_true]
  · have e1 : (((n : Nat) : Int) != 256) = true := bneI_yes (by omega)
    rw [e1, cond_true]

section
variable (k : Nat) (hk : 1000 < k) {m : Mem} {c : Nat} (hC : Frm m c)
include hk hC

theorem message_ok' {ad : Addr} {ca i : Nat} {w : Nat → GF} (hw : Src m (some ad) 256 w) (hs : okS ad) (hca : 256 ≤ ca) (hi : i < 4) :
    Ok (frame_Frame_Message k (some ⟨c, 0, none⟩) (some ad) 256 ca i m) fun r => Gr m r.2.2.2 ∧ ((∃ u n d, GF.dec (wd w i) = some (u, n) ∧ r.1 = ⟨some ⟨d, 0, none⟩, 58, 58⟩ ∧ r.2.1 = (n : Nat) ∧ r.2.2.1 = .nilIface ∧ m.length ≤ d ∧ r.2.2.2[d]? = some (.live (bys 64 u))) ∨
      (GF.dec (wd w i) = none ∧ r.1 = ⟨none, 0, 0⟩ ∧ r.2.1 = 0 ∧ r.2.2.1 = errC 5)) := by
  unfold frame_Frame_Message
  obtain ⟨cd, c1, c2⟩ := hC
  have e1 : (((256 : Nat) : Int) != 256) = false := rfl
  have f2 : ldPtr m ⟨c, 0, none⟩ = some (some ⟨cd, 0, none⟩) := ldPtr_of c1 rfl
  have w2 : IntKind.wrap .i64 ((i : Int) + 1) = ((i + 1 : Nat) : Int) := by rw [wrap_i64 (by omega) (by omega)]; simp
  have w1 : IntKind.wrap .i64 ((i : Int) * 64) = ((i * 64 : Nat) : Int) := by rw [wrap_i64 (by omega) (by omega)]; simp
  have w3 : IntKind.wrap .i64 (((i + 1 : Nat) : Int) * 64) = ((i * 64 + 64 : Nat) : Int) := by
    rw [wrap_i64 (by omega) (by omega)]; omega
  have u1 : inUpto ((i * 64 + 64 : Nat) : Int) ca = true := inUpto_yes (by omega) (by omega)
  have u2 : inUpto ((i * 64 : Nat) : Int) (i * 64 + 64) = true := inUpto_yes (by omega) (by omega)
  simp only [e1, cond_false, decide_eq_false (show ¬ (i : Int) < 0 by omega), decide_eq_false (show ¬ (i : Int) > 3 by omega), Option.bind_some, plus, Nat.add_zero, f2, w2, w1, w3, hs.z, u1, u2, Bool.and_self, cond_true, Int.toNat_natCast, Nat.mul_one, clear_f, Option.map_some]
  rw [show i * 64 + 64 - i * 64 = 64 by omega]
  refine .bind (decode_ok k hk c2 (cc := ca - i * 64) (hw.part (o := i * 64) (l := 64) (by omega))) ?_
  rintro r ⟨h1, h2⟩
  exact .some ⟨h1, h2⟩

def mxN (N : Nat → Nat) : Nat → Nat
  | 0 => 0
  | i + 1 => max (mxN N i) (N i)
omit hk hC in
theorem maxI_nat (a b : Nat) : maxI (a : Int) (b : Int) = ((max a b : Nat) : Int) := by
  unfold maxI; split <;> omega

theorem body_ok {ad : Addr} {ca : Nat} {w : Nat → GF} (hw : Src m (some ad) 256 w) (hs : okS ad) (hca : 256 ≤ ca) :
    Ok (frame_Frame_Body k (some ⟨c, 0, none⟩) (some ad) 256 ca m) fun r => Gr m r.2.2.2 ∧ ((∃ u n d, GF.dec (wd w 3) = some (u, n) ∧ marked u ∧ r.1 = ⟨some ⟨d, 0, none⟩, 50, 50⟩ ∧ r.2.1 = (n : Nat) ∧ r.2.2.1 = .nilIface ∧ m.length ≤ d ∧ r.2.2.2[d]? = some (.live (bys 58 u))) ∨
      (∃ u n, GF.dec (wd w 3) = some (u, n) ∧ ¬ marked u ∧ r.1 = ⟨none, 0, 0⟩ ∧ r.2.1 = 0 ∧ r.2.2.1 = errC 6) ∨ (GF.dec (wd w 3) = none ∧ r.1 = ⟨none, 0, 0⟩ ∧ r.2.1 = 0 ∧ r.2.2.1 = errC 5)) := by
  unfold frame_Frame_Body
  refine .bind (message_ok' k hk hC hw hs hca (i := 3) (by omega)) ?_
  rintro ⟨_, _, _, m1⟩ ⟨hg1, ⟨u, n, d, hd, rfl, rfl, rfl, h1, h2⟩ | ⟨hd, rfl, rfl, rfl⟩⟩
  · simp only at hg1 h2 ⊢
    simp (disch := omega) only [Option.bind_some, Option.map_some, cond_true, cond_false, wrap_i64, tmod_pos, tdiv_pos, inRange_yes, inUpto_yes, isZero_no, decide_eq_true, decide_eq_false, Bool.not_true, Bool.not_false, Int.toNat_natCast, Nat.mul_one, beqI_yes, beqI_no, bneI_yes, bneI_no, isNil_nil, isNil_iface, wr_wr, Option.isNone_none, Option.isNone_some, plus, Nat.zero_add, Nat.add_zero, isNil_nil]
    refine .bind (open_ok k (c := 58) (Src.take (sp := none) h2 (l := 58) (by omega))) ?_
    rintro ⟨_, _, m2⟩ ⟨hg2, ⟨hm, d2, rfl, rfl, h3, h4⟩ | ⟨hm, rfl, rfl⟩⟩
    · simp only at hg2 h4 ⊢
      simp (disch := omega) only [Option.bind_some, Option.map_some, cond_true, cond_false, wrap_i64, tmod_pos, tdiv_pos, inRange_yes, inUpto_yes, isZero_no, decide_eq_true, decide_eq_false, Bool.not_true, Bool.not_false, Int.toNat_natCast, Nat.mul_one, beqI_yes, beqI_no, bneI_yes, bneI_no, isNil_nil, isNil_iface, wr_wr, Option.isNone_none, Option.isNone_some, plus, Nat.zero_add, Nat.add_zero, isNil_nil]
      exact .some ⟨hg1.trans hg2, .inl ⟨u, n, d2, hd, hm, rfl, rfl, rfl, by have := hg1.len; omega, h4⟩⟩
    · simp only at hg2 ⊢
      have e3 : isNil (errC 6) = some false := rfl
      simp (disch := omega) only [Option.bind_some, Option.map_some, cond_true, cond_false, wrap_i64, tmod_pos, tdiv_pos, inRange_yes, inUpto_yes, isZero_no, decide_eq_true, decide_eq_false, Bool.not_true, Bool.not_false, Int.toNat_natCast, Nat.mul_one, beqI_yes, beqI_no, bneI_yes, bneI_no, isNil_nil, isNil_iface, wr_wr, Option.isNone_none, Option.isNone_some, plus, Nat.zero_add, Nat.add_zero, e3]
      exact .some ⟨hg1.trans hg2, .inr (.inl ⟨u, n, hd, hm, rfl, rfl, rfl⟩)⟩
  · simp only at hg1 ⊢
    have e3 : isNil (errC 5) = some false := rfl
    simp (disch := omega) only [Option.bind_some, Option.map_some, cond_true, cond_false, wrap_i64, tmod_pos, tdiv_pos, inRange_yes, inUpto_yes, isZero_no, decide_eq_true, decide_eq_false, Bool.not_true, Bool.not_false, Int.toNat_natCast, Nat.mul_one, beqI_yes, beqI_no, bneI_yes, bneI_no, isNil_nil, isNil_iface, wr_wr, Option.isNone_none, Option.isNone_some, plus, Nat.zero_add, Nat.add_zero, e3]
    exact .some ⟨hg1, .inr (.inr ⟨hd, rfl, rfl, rfl⟩)⟩

/-- where the loop over the words stands -/
structure DaI (m ML : Mem) (x7 x8 : Nat) (w : Nat → GF) (i : Nat) (M : Mem) (out : Option Addr) (U : Nat → Nat → GF) (N : Nat → Nat) : Prop where
  len : ML.length ≤ M.length
  gr : Gr m M
  old : ∀ p, p < ML.length → p ≠ x7 → p ≠ x8 → M[p]? = ML[p]?
  b7 : M[x7]? = some (.live [.slice out (i * 58) (i * 58)])
  b8 : M[x8]? = some (.live [.int .i64 (mxN N i : Nat)])
  out_ : Ac ML.length M out (i * 58) fun j => U (j / 58) (j % 58)
  dec_ : ∀ j, j < i → GF.dec (wd w j) = some (U j, N j)

theorem data_ok {ad : Addr} {ca : Nat} {w : Nat → GF} (hw : Src m (some ad) 256 w) (hs : okS ad) (hca : 256 ≤ ca) :
    Ok (frame_Frame_Data k (some ⟨c, 0, none⟩) (some ad) 256 ca m) fun r => Gr m r.2.2.2 ∧ ((∃ (U : Nat → Nat → GF) (N : Nat → Nat) (q : Nat), (∀ j, j < 3 → GF.dec (wd w j) = some (U j, N j)) ∧ r.1 = ⟨some ⟨q, 0, some 1⟩, 174, 174⟩ ∧ r.2.1 = (mxN N 3 : Nat) ∧ r.2.2.1 = .nilIface ∧ m.length ≤ q ∧ r.2.2.2[q]? = some (.live (bys 174 fun j => U (j / 58) (j % 58)))) ∨
      (∃ j, j < 3 ∧ GF.dec (wd w j) = none ∧ r.1 = ⟨none, 0, 0⟩ ∧ r.2.1 = 0 ∧ r.2.2.1 = errC 5)) := by
  unfold frame_Frame_Data
  have l1 : (m ++ [MObj.live [Value.pointer (some ⟨c, 0, none⟩)]]).length = m.length + 1 := by simp
  have l2 : ((m ++ [MObj.live [Value.pointer (some ⟨c, 0, none⟩)]]) ++ [MObj.live [.slice none 0 0]]).length = m.length + 2 := by simp
  have l3 : (((m ++ [MObj.live [Value.pointer (some ⟨c, 0, none⟩)]]) ++ [MObj.live [.slice none 0 0]]) ++ [MObj.live [.int .i64 0]]).length = m.length + 3 := by simp
  have l4 : ((((m ++ [MObj.live [Value.pointer (some ⟨c, 0, none⟩)]]) ++ [MObj.live [.slice none 0 0]]) ++ [MObj.live [.int .i64 0]]) ++ [MObj.live [.nilIface]]).length = m.length + 4 := by simp
  have l5 : (((((m ++ [MObj.live [Value.pointer (some ⟨c, 0, none⟩)]]) ++ [MObj.live [.slice none 0 0]]) ++ [MObj.live [.int .i64 0]]) ++ [MObj.live [.nilIface]]) ++ [MObj.live [.slice none 0 0]]).length = m.length + 5 := by simp
  have g6 := (((((Gr.app m [.live [Value.pointer (some ⟨c, 0, none⟩)]]).trans (Gr.app _ [.live [.slice none 0 0]])).trans (Gr.app _ [.live [.int .i64 0]])).trans (Gr.app _ [.live [.nilIface]])).trans (Gr.app _ [.live [.slice none 0 0]])).trans (Gr.app _ [.live [.int .i64 0]])
  have x2 : ((((((m ++ [MObj.live [Value.pointer (some ⟨c, 0, none⟩)]]) ++ [MObj.live [.slice none 0 0]]) ++ [MObj.live [.int .i64 0]]) ++ [MObj.live [.nilIface]]) ++ [MObj.live [.slice none 0 0]]) ++ [MObj.live [.int .i64 0]])[m.length]? = some (.live [Value.pointer (some ⟨c, 0, none⟩)]) := get_grow (get_grow (get_grow (get_grow (get_grow (get_last rfl)))))
  have x4 : ((((((m ++ [MObj.live [Value.pointer (some ⟨c, 0, none⟩)]]) ++ [MObj.live [.slice none 0 0]]) ++ [MObj.live [.int .i64 0]]) ++ [MObj.live [.nilIface]]) ++ [MObj.live [.slice none 0 0]]) ++ [MObj.live [.int .i64 0]])[m.length + 1]? = some (.live [.slice none 0 0]) := get_grow (get_grow (get_grow (get_grow (get_last (by simp)))))
  have x5 : ((((((m ++ [MObj.live [Value.pointer (some ⟨c, 0, none⟩)]]) ++ [MObj.live [.slice none 0 0]]) ++ [MObj.live [.int .i64 0]]) ++ [MObj.live [.nilIface]]) ++ [MObj.live [.slice none 0 0]]) ++ [MObj.live [.int .i64 0]])[m.length + 2]? = some (.live [.int .i64 0]) := get_grow (get_grow (get_grow (get_last (by simp))))
  have x6 : ((((((m ++ [MObj.live [Value.pointer (some ⟨c, 0, none⟩)]]) ++ [MObj.live [.slice none 0 0]]) ++ [MObj.live [.int .i64 0]]) ++ [MObj.live [.nilIface]]) ++ [MObj.live [.slice none 0 0]]) ++ [MObj.live [.int .i64 0]])[m.length + 3]? = some (.live [.nilIface]) := get_grow (get_grow (get_last (by simp)))
  have x7 : ((((((m ++ [MObj.live [Value.pointer (some ⟨c, 0, none⟩)]]) ++ [MObj.live [.slice none 0 0]]) ++ [MObj.live [.int .i64 0]]) ++ [MObj.live [.nilIface]]) ++ [MObj.live [.slice none 0 0]]) ++ [MObj.live [.int .i64 0]])[m.length + 4]? = some (.live [.slice none 0 0]) := get_grow (get_last (by simp))
  have x8 : ((((((m ++ [MObj.live [Value.pointer (some ⟨c, 0, none⟩)]]) ++ [MObj.live [.slice none 0 0]]) ++ [MObj.live [.int .i64 0]]) ++ [MObj.live [.nilIface]]) ++ [MObj.live [.slice none 0 0]]) ++ [MObj.live [.int .i64 0]])[m.length + 5]? = some (.live [.int .i64 0]) := get_last (by simp)
  have l6 : ((((((m ++ [MObj.live [Value.pointer (some ⟨c, 0, none⟩)]]) ++ [MObj.live [.slice none 0 0]]) ++ [MObj.live [.int .i64 0]]) ++ [MObj.live [.nilIface]]) ++ [MObj.live [.slice none 0 0]]) ++ [MObj.live [.int .i64 0]]).length = m.length + 6 := by simp
  have e0 : (((256 : Nat) : Int) != 256) = false := rfl
  have u0 : inUpto 192 ca = true := inUpto_yes (by omega) (by omega)
  have t0 : Int.toNat 192 = 192 := rfl
  simp (disch := omega) only [Option.bind_some, Option.map_some, cond_true, cond_false, wrap_i64, tmod_pos, tdiv_pos, inRange_yes, inUpto_yes, isZero_no, decide_eq_true, decide_eq_false, Bool.not_true, Bool.not_false, Int.toNat_natCast, Nat.mul_one, beqI_yes, beqI_no, bneI_yes, bneI_no, isNil_nil, isNil_iface, wr_wr, Option.isNone_none, Option.isNone_some, plus, Nat.zero_add, Nat.add_zero, l1, l2, l3, l4, l5, e0, u0, t0, clear_f]
  generalize (((((m ++ [MObj.live [Value.pointer (some ⟨c, 0, none⟩)]]) ++ [MObj.live [.slice none 0 0]]) ++ [MObj.live [.int .i64 0]]) ++ [MObj.live [.nilIface]]) ++ [MObj.live [.slice none 0 0]]) ++ [MObj.live [.int .i64 0]] = M6 at *
  have f0 := st_wr (sp := none) (off := 0) (v := .int .i64 0) x8 (by simp)
  have hs0 : ([.int .i64 0] : List Value).set 0 (.int .i64 0) = [.int .i64 0] := rfl
  rw [hs0, wr_same x8] at f0
  have e5 := pieces_is k M6 (some ad) 192 ca 64
  rw [l6] at e5
  have gb : (M6 ++ [MObj.live [.slice (some ad) 192 ca], .live [.int .i64 64]])[m.length + 6]? = some (.live [.slice (some ad) 192 ca]) := by rw [List.getElem?_append_right (by omega), l6]; simp
  have gz : (M6 ++ [MObj.live [.slice (some ad) 192 ca], .live [.int .i64 64]])[m.length + 6 + 1]? = some (.live [.int .i64 64]) := by rw [List.getElem?_append_right (by omega), l6]; simp
  have hgL : Gr M6 (M6 ++ [MObj.live [.slice (some ad) 192 ca], .live [.int .i64 64]]) := Gr.app _ _
  have hlL : (M6 ++ [MObj.live [.slice (some ad) 192 ca], .live [.int .i64 64]]).length = m.length + 8 := by simp [l6]
  simp (disch := omega) only [Option.bind_some, Option.map_some, cond_true, cond_false, wrap_i64, tmod_pos, tdiv_pos, inRange_yes, inUpto_yes, isZero_no, decide_eq_true, decide_eq_false, Bool.not_true, Bool.not_false, Int.toNat_natCast, Nat.mul_one, beqI_yes, beqI_no, bneI_yes, bneI_no, isNil_nil, isNil_iface, wr_wr, Option.isNone_none, Option.isNone_some, plus, Nat.zero_add, Nat.add_zero, f0, e5]
  generalize M6 ++ [MObj.live [.slice (some ad) 192 ca], .live [.int .i64 64]] = ML at *
  have gL := g6.trans hgL
  have hwL := hw.grow gL
  refine frame_Frame_Data_r0_rule k _ _ _ _ _ _ _ _ _ (fun r si M => ∃ (i : Nat) (out : Option Addr) (U : Nat → Nat → GF) (N : Nat → Nat), si = i ∧ i + r = 3 ∧ DaI m ML (m.length + 4) (m.length + 5) w i M out U N) ?_ k 3 _ _ (by omega)
    ⟨0, none, fun _ _ => 0, fun _ => 0, rfl, rfl, ⟨Nat.le_refl _, gL, fun _ _ _ _ => rfl, hgL.get x7, hgL.get x8, .inl ⟨rfl, rfl⟩, fun j hj => by omega⟩⟩
  rintro r nx _ M ⟨i, out, U, N, rfl, hr, hI⟩ hnx
  unfold frame_Frame_Data_r0_b
  have b1 : M[m.length + 6]? = _ := (hI.old _ (by omega) (by omega) (by omega)).trans gb
  have b2 : M[m.length + 6 + 1]? = _ := (hI.old _ (by omega) (by omega) (by omega)).trans gz
  have b_2 : M[m.length]? = _ := (hI.old _ (by omega) (by omega) (by omega)).trans (hgL.get x2)
  have b_4 : M[m.length + 1]? = _ := (hI.old _ (by omega) (by omega) (by omega)).trans (hgL.get x4)
  have b_5 : M[m.length + 2]? = _ := (hI.old _ (by omega) (by omega) (by omega)).trans (hgL.get x5)
  have b_6 : M[m.length + 3]? = _ := (hI.old _ (by omega) (by omega) (by omega)).trans (hgL.get x6)
  have hml := hI.len
  -- the results, written and read
  have fin : ∀ (M : Mem) (s : Sl) (n : Int) (e : Value) (cs4 cs5 cs6 : MObj), M[m.length + 1]? = some (.live [.slice none 0 0]) → M[m.length + 2]? = some (.live [.int .i64 0]) → M[m.length + 3]? = some (.live [.nilIface]) →
      ∃ M4 M5 M6, st M ⟨m.length + 1, 0, none⟩ (.slice s.a s.len s.cap) = some M4 ∧ st M4 ⟨m.length + 2, 0, none⟩ (.int .i64 n) = some M5 ∧ st M5 ⟨m.length + 3, 0, none⟩ e = some M6 ∧
        ldSl M6 ⟨m.length + 1, 0, none⟩ = some s ∧ ldInt .i64 M6 ⟨m.length + 2, 0, none⟩ = some n ∧ ldVal M6 ⟨m.length + 3, 0, none⟩ = some e ∧ (∀ p, p ≠ m.length + 1 → p ≠ m.length + 2 → p ≠ m.length + 3 → M6[p]? = M[p]?) ∧ (∀ p, p ≠ m.length + 1 → M4[p]? = M[p]?) ∧ (∀ m0, Gr m0 M → m0.length ≤ m.length → Gr m0 M6) := by
    intro M s n e _ _ _ y4 y5 y6
    have q4 := st_wr (sp := none) (off := 0) (v := .slice s.a s.len s.cap) y4 (by simp)
    have y5' : (wr M (m.length + 1) (([.slice none 0 0] : List Value).set 0 (.slice s.a s.len s.cap)))[m.length + 2]? = some (.live [.int .i64 0]) := by rw [wr_ne (by omega)]; exact y5
    have q5 := st_wr (sp := none) (off := 0) (v := .int .i64 n) y5' (by simp)
    have y6' : (wr (wr M (m.length + 1) (([.slice none 0 0] : List Value).set 0 (.slice s.a s.len s.cap))) (m.length + 2) (([.int .i64 0] : List Value).set 0 (.int .i64 n)))[m.length + 3]? = some (.live [.nilIface]) := by rw [wr_ne (by omega), wr_ne (by omega)]; exact y6
    have q6 := st_wr (sp := none) (off := 0) (v := e) y6' (by simp)
    refine ⟨_, _, _, q4, q5, q6, ldSl_of (cs := [.slice s.a s.len s.cap]) (by rw [wr_ne (by omega), wr_ne (by omega)]; exact wr_get y4) rfl, ldInt_of (cs := [.int .i64 n]) (by rw [wr_ne (by omega)]; exact wr_get y5') rfl, ldVal_of (cs := [e]) (wr_get y6') rfl,
      fun p h1 h2 h3 => by rw [wr_ne (Ne.symm h3), wr_ne (Ne.symm h2), wr_ne (Ne.symm h1)], fun p h1 => by rw [wr_ne (Ne.symm h1)], fun m0 h0 h1 => ((h0.wr (by omega) _).wr (by omega) _).wr (by omega) _⟩
  by_cases hi : i < 3
  · rw [pcs_next (s := 64) b1 b2 hs (by omega) (by omega) (by omega) (by omega) (by omega)]
    obtain ⟨cd, c1, c2⟩ := hC.grow hI.gr
    have f1 : ldPtr M ⟨m.length, 0, none⟩ = some (some ⟨c, 0, none⟩) := ldPtr_of b_2 rfl
    have f2 : ldPtr M ⟨c, 0, none⟩ = some (some ⟨cd, 0, none⟩) := ldPtr_of c1 rfl
    simp (disch := omega) only [Option.bind_some, Option.map_some, cond_true, cond_false, wrap_i64, tmod_pos, tdiv_pos, inRange_yes, inUpto_yes, isZero_no, decide_eq_true, decide_eq_false, Bool.not_true, Bool.not_false, Int.toNat_natCast, Nat.mul_one, beqI_yes, beqI_no, bneI_yes, bneI_no, isNil_nil, isNil_iface, wr_wr, Option.isNone_none, Option.isNone_some, plus, Nat.zero_add, Nat.add_zero, f1, f2]
    have hsrc : Src M (some (plus ad (i * 64))) 64 (wd w i) := (hw.grow hI.gr).part (by omega)
    refine .bind (decode_ok k hk c2 (cc := ca - i * 64) hsrc) ?_
    rintro ⟨_, _, _, M2⟩ ⟨hg2, ⟨u, n, d, hd, rfl, rfl, rfl, h1, h2⟩ | ⟨hd, rfl, rfl, rfl⟩⟩
    · simp only at hg2 h2 ⊢
      have hgl := hg2.len
      have y7 := hg2.get hI.b7
      have y8 := hg2.get hI.b8
      have f3 : ldSl M2 ⟨m.length + 4, 0, none⟩ = some ⟨out, i * 58, i * 58⟩ := ldSl_of y7 rfl
      have f4 : rdSl M2 (some ⟨d, 0, none⟩) 58 1 = some (bys 58 u) := Src.take (sp := none) h2 (by omega)
      have hA := hI.out_.keep (m' := M2) fun p o _ ho => hg2.get ho
      obtain ⟨M3, q1, q2, q3, q4, q5, q6⟩ := hA.app (u := u) (l := 58) (by omega) (by omega) (by unfold most; omega)
      have outne : ∀ q, out = some ⟨q, 0, some 1⟩ → ML.length ≤ q ∧ q < M.length := by
        rintro q rfl
        rcases hI.out_ with ⟨h, _⟩ | ⟨q', h, h1, h2⟩
        · cases h
        · simp only [Option.some.injEq, Addr.mk.injEq, and_true] at h
          subst h
          exact ⟨h1, get_lt h2⟩
      have y7b : M3[m.length + 4]? = _ := (q5 _ (by omega) fun q hq => by have := outne q hq; omega).trans y7
      have y8b : M3[m.length + 5]? = _ := (q5 _ (by omega) fun q hq => by have := outne q hq; omega).trans y8
      have f5 := st_wr (sp := none) (off := 0) (v := .slice (some ⟨M2.length, 0, some 1⟩) (i * 58 + 58) (i * 58 + 58)) y7b (by simp)
      have y8c : (wr M3 (m.length + 4) (([.slice out (i * 58) (i * 58)] : List Value).set 0 (.slice (some ⟨M2.length, 0, some 1⟩) (i * 58 + 58) (i * 58 + 58))))[m.length + 5]? = some (.live [.int .i64 (mxN N i : Nat)]) := by rw [wr_ne (by omega)]; exact y8b
      have f6 : ldInt .i64 (wr M3 (m.length + 4) (([.slice out (i * 58) (i * 58)] : List Value).set 0 (.slice (some ⟨M2.length, 0, some 1⟩) (i * 58 + 58) (i * 58 + 58)))) ⟨m.length + 5, 0, none⟩ = some ((mxN N i : Nat) : Int) := ldInt_of y8c rfl
      have f7 := st_wr (sp := none) (off := 0) (v := .int .i64 (maxI (mxN N i : Nat) (n : Nat))) y8c (by simp)
      simp (disch := omega) only [Option.bind_some, Option.map_some, cond_true, cond_false, wrap_i64, tmod_pos, tdiv_pos, inRange_yes, inUpto_yes, isZero_no, decide_eq_true, decide_eq_false, Bool.not_true, Bool.not_false, Int.toNat_natCast, Nat.mul_one, beqI_yes, beqI_no, bneI_yes, bneI_no, isNil_nil, isNil_iface, wr_wr, Option.isNone_none, Option.isNone_some, plus, Nat.zero_add, Nat.add_zero, isNil_nil, f3, f4, q1, f5, f6, f7]
      have hst7 : ([.slice out (i * 58) (i * 58)] : List Value).set 0 (.slice (some ⟨M2.length, 0, some 1⟩) (i * 58 + 58) (i * 58 + 58)) = [.slice (some ⟨M2.length, 0, some 1⟩) (i * 58 + 58) (i * 58 + 58)] := rfl
      have hst8 : ([.int .i64 (mxN N i : Nat)] : List Value).set 0 (.int .i64 (maxI (mxN N i : Nat) (n : Nat))) = [.int .i64 (maxI (mxN N i : Nat) (n : Nat))] := rfl
      rw [hst7, hst8]
      rw [hst7] at y8c
      refine hnx (r - 1) _ _ (by omega) ⟨i + 1, some ⟨M2.length, 0, some 1⟩, fun j => if j = i then u else U j, fun j => if j = i then n else N j, rfl, by omega, ⟨?_, ?_, ?_, ?_, ?_, ?_, ?_⟩⟩
      · rw [wr_len, wr_len]; omega
      · exact ((q6 m (hI.gr.trans hg2) (by have := gL.len; omega)).wr (by omega) _).wr (by omega) _
      · intro p hp h7 h8
        rw [wr_ne (Ne.symm h8), wr_ne (Ne.symm h7), q5 p (by omega) fun q hq => by have := outne q hq; omega, ← hI.old p hp h7 h8]
        obtain ⟨g, rfl⟩ := hg2
        exact get_app_lt (by omega)
      · rw [wr_ne (by omega), show (i + 1) * 58 = i * 58 + 58 by omega]; exact wr_get y7b
      · rw [wr_get y8c]
        have hmx : mxN (fun j => if j = i then n else N j) (i + 1) = max (mxN N i) n := by
          have hc : ∀ t, t ≤ i → mxN (fun j => if j = i then n else N j) t = mxN N t := by
            intro t
            induction t with
            | zero => exact fun _ => rfl
            | succ t ih => intro ht; rw [mxN, mxN, ih (by omega), if_neg (by omega)]
          rw [mxN, hc i (Nat.le_refl _), if_pos rfl]
        rw [hmx, maxI_nat]
      · have q2' := q2.keep (m' := wr (wr M3 (m.length + 4) [.slice (some ⟨M2.length, 0, some 1⟩) (i * 58 + 58) (i * 58 + 58)]) (m.length + 5) [.int .i64 (maxI (mxN N i : Nat) (n : Nat))]) fun p o hp ho => by rw [wr_ne (by omega), wr_ne (by omega)]; exact ho
        rw [show (i + 1) * 58 = i * 58 + 58 by omega]
        refine q2'.congr fun j hj => ?_
        by_cases h5 : j < i * 58
        · rw [if_pos h5, if_neg (by omega)]
        · rw [if_neg h5, if_pos (by omega), show j % 58 = j - i * 58 by omega]
      · intro j hj
        by_cases h5 : j = i
        · subst h5; simp only [↓reduceIte]; exact hd
        · simp only [if_neg h5]; exact hI.dec_ j (by omega)
    · simp only at hg2 ⊢
      have e3 : isNil (errC 5) = some false := rfl
      have e4 : isOne (errC 5) = true := rfl
      obtain ⟨A4, A5, A6, a1, a2, a3, a4, a5, a6, _, _, a9⟩ := fin M2 ⟨none, 0, 0⟩ 0 (errC 5) .dead .dead .dead (hg2.get b_4) (hg2.get b_5) (hg2.get b_6)
      simp only at a1
      simp (disch := omega) only [Option.bind_some, Option.map_some, cond_true, cond_false, wrap_i64, tmod_pos, tdiv_pos, inRange_yes, inUpto_yes, isZero_no, decide_eq_true, decide_eq_false, Bool.not_true, Bool.not_false, Int.toNat_natCast, Nat.mul_one, beqI_yes, beqI_no, bneI_yes, bneI_no, isNil_nil, isNil_iface, wr_wr, Option.isNone_none, Option.isNone_some, plus, Nat.zero_add, Nat.add_zero, e3, e4, a1, a2, a3, a4, a5, a6]
      exact .some ⟨a9 m (hI.gr.trans hg2) (Nat.le_refl _), .inr ⟨i, hi, hd, rfl, rfl, rfl⟩⟩
  · obtain rfl : i = 3 := by omega
    rw [pcs_end (s := 64) b1 b2 (by omega) (by omega) (by omega) (by omega)]
    rcases hI.out_ with ⟨_, h⟩ | ⟨q, rfl, hq1, hq2⟩
    · omega
    have f1 : ldSl M ⟨m.length + 4, 0, none⟩ = some ⟨some ⟨q, 0, some 1⟩, 174, 174⟩ := ldSl_of hI.b7 rfl
    have f2 : ldInt .i64 M ⟨m.length + 5, 0, none⟩ = some ((mxN N 3 : Nat) : Int) := ldInt_of hI.b8 rfl
    obtain ⟨A4, A5, A6, a1, a2, a3, a4, a5, a6, a7, a8, a9⟩ := fin M ⟨some ⟨q, 0, some 1⟩, 174, 174⟩ (mxN N 3 : Nat) .nilIface .dead .dead .dead b_4 b_5 b_6
    have f3 : ldInt .i64 A4 ⟨m.length + 5, 0, none⟩ = some ((mxN N 3 : Nat) : Int) := ldInt_of (by rw [a8 _ (by omega)]; exact hI.b8) rfl
    have f4 : (((mxN N 3 : Nat) : Int) == ((mxN N 3 : Nat) : Int)) = true := by simp
    simp only at a1
    simp (disch := omega) only [Option.bind_some, Option.map_some, cond_true, cond_false, wrap_i64, tmod_pos, tdiv_pos, inRange_yes, inUpto_yes, isZero_no, decide_eq_true, decide_eq_false, Bool.not_true, Bool.not_false, Int.toNat_natCast, Nat.mul_one, beqI_yes, beqI_no, bneI_yes, bneI_no, isNil_nil, isNil_iface, wr_wr, Option.isNone_none, Option.isNone_some, plus, Nat.zero_add, Nat.add_zero, f1, f2, a1, a2, a3, f3, f4, a4, a5, a6]
    refine .some ⟨a9 m hI.gr (Nat.le_refl _), .inl ⟨U, N, q, hI.dec_, rfl, rfl, rfl, by omega, ?_⟩⟩
    show A6[q]? = _
    rw [a7 q (by omega) (by omega) (by omega)]
    exact hq2
end
end Go.Proofs.Ytmfmoanjecjeeaa
