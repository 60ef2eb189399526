/- The frame: a page is laid. -/
import Derived.Test.YtmfmoanjecjeeaaFr1
set_option linter.unusedVariables false
set_option linter.unusedSectionVars false
set_option linter.unusedSimpArgs false
namespace Go.Proofs.Ytmfmoanjecjeeaa
open Go.Mx

def whole (w u : Nat → GF) : Nat → GF := fun i => if i < 174 then w i else sealed u (i - 174)
def msgs (w u : Nat → GF) (i : Nat) : Nat → GF := fun j => whole w u (i * 58 + j)
theorem lay_no (k : Nat) {m : Mem} {c : Nat} {a b : Option Addr} {n1 n2 ca cb : Nat} (h : ¬ (n1 = 174 ∧ n2 = 50)) :
    Ok (frame_Frame_Lay k (some ⟨c, 0, none⟩) a n1 ca b n2 cb m) fun r => r.1 = ⟨none, 0, 0⟩ ∧ r.2.1 = errC 1 ∧ Gr m r.2.2 := by
  unfold frame_Frame_Lay
  have l1 : (m ++ [MObj.live [Value.pointer (some ⟨c, 0, none⟩)]]).length = m.length + 1 := by simp
  have l2 : ((m ++ [MObj.live [Value.pointer (some ⟨c, 0, none⟩)]]) ++ [MObj.live [.slice none 0 0]]).length = m.length + 2 := by simp
  have g3 := (((Gr.app m [.live [Value.pointer (some ⟨c, 0, none⟩)]]).trans (Gr.app _ [.live [.slice none 0 0]])).trans (Gr.app _ [.live [.nilIface]]))
  have x6 : (((m ++ [MObj.live [Value.pointer (some ⟨c, 0, none⟩)]]) ++ [MObj.live [.slice none 0 0]]) ++ [MObj.live [.nilIface]])[m.length + 1]? = some (.live [.slice none 0 0]) := get_grow (get_last (by simp))
  have x7 : (((m ++ [MObj.live [Value.pointer (some ⟨c, 0, none⟩)]]) ++ [MObj.live [.slice none 0 0]]) ++ [MObj.live [.nilIface]])[m.length + 2]? = some (.live [.nilIface]) := get_last (by simp)
  simp (disch := omega) only [Option.bind_some, Option.map_some, cond_true, cond_false, wrap_i64, tmod_pos, tdiv_pos, inRange_yes, inUpto_yes, isZero_no, decide_eq_true, decide_eq_false, Bool.not_true, Bool.not_false, Int.toNat_natCast, Nat.mul_one, beqI_yes, beqI_no, bneI_yes, bneI_no, isNil_nil, isNil_iface, wr_wr, Option.isNone_none, Option.isNone_some, plus, Nat.zero_add, Nat.add_zero, l1, l2]
  generalize ((m ++ [MObj.live [Value.pointer (some ⟨c, 0, none⟩)]]) ++ [MObj.live [.slice none 0 0]]) ++ [MObj.live [.nilIface]] = M at *
  have key : ∀ (e : Value), isOne e = true → (st M ⟨m.length + 1, 0, none⟩ (.slice none 0 0)) = some (wr M (m.length + 1) [.slice none 0 0]) ∧ st (wr M (m.length + 1) [.slice none 0 0]) ⟨m.length + 2, 0, none⟩ e = some (wr (wr M (m.length + 1) [.slice none 0 0]) (m.length + 2) [e]) ∧
      ldSl (wr (wr M (m.length + 1) [.slice none 0 0]) (m.length + 2) [e]) ⟨m.length + 1, 0, none⟩ = some ⟨none, 0, 0⟩ ∧ ldVal (wr (wr M (m.length + 1) [.slice none 0 0]) (m.length + 2) [e]) ⟨m.length + 2, 0, none⟩ = some e ∧ Gr m (wr (wr M (m.length + 1) [.slice none 0 0]) (m.length + 2) [e]) := by
    intro e _
    have y7 : (wr M (m.length + 1) [.slice none 0 0])[m.length + 2]? = some (.live [.nilIface]) := by rw [wr_ne (by omega)]; exact x7
    refine ⟨st_wr x6 (by simp), st_wr y7 (by simp), ldSl_of (cs := [.slice none 0 0]) (by rw [wr_ne (by omega)]; exact wr_get x6) rfl, ldVal_of (cs := [e]) (wr_get y7) rfl, (g3.wr (by omega) _).wr (by omega) _⟩
  by_cases h1 : n1 = 174
  · subst h1
    have e1 : (((174 : Nat) : Int) != 174) = false := rfl
    have e2 := seal_no k (m := M) (a := b) (c := cb) (n := n2) (fun h2 => h ⟨rfl, h2⟩)
    obtain ⟨k1, k2, k3, k4, k5⟩ := key (errC 1) rfl
    have e3 : isNil (errC 1) = some false := rfl
    have e4 : isOne (errC 1) = true := rfl
    simp (disch := omega) only [Option.bind_some, Option.map_some, cond_true, cond_false, wrap_i64, tmod_pos, tdiv_pos, inRange_yes, inUpto_yes, isZero_no, decide_eq_true, decide_eq_false, Bool.not_true, Bool.not_false, Int.toNat_natCast, Nat.mul_one, beqI_yes, beqI_no, bneI_yes, bneI_no, isNil_nil, isNil_iface, wr_wr, Option.isNone_none, Option.isNone_some, plus, Nat.zero_add, Nat.add_zero, e1, e2, e3, e4, k1, k2, k3, k4]
    exact .some ⟨rfl, rfl, k5⟩
  · have e1 : (((n1 : Nat) : Int) != 174) = true := bneI_yes (by omega)
    obtain ⟨k1, k2, k3, k4, k5⟩ := key (errC 1) rfl
    rw [errC_pos (by omega)] at k2 k3 k4 k5
    simp (disch := omega) only [Option.bind_some, Option.map_some, cond_true, cond_false, wrap_i64, tmod_pos, tdiv_pos, inRange_yes, inUpto_yes, isZero_no, decide_eq_true, decide_eq_false, Bool.not_true, Bool.not_false, Int.toNat_natCast, Nat.mul_one, beqI_yes, beqI_no, bneI_yes, bneI_no, isNil_nil, isNil_iface, wr_wr, Option.isNone_none, Option.isNone_some, plus, Nat.zero_add, Nat.add_zero, e1, k1, k2, k3, k4]
    exact .some ⟨rfl, rfl, k5⟩

/-- where the loop over the messages stands -/
structure LyI (m ML : Mem) (x10 : Nat) (w u : Nat → GF) (i : Nat) (M : Mem) (out : Option Addr) (D : Nat → Nat) : Prop where
  len : ML.length ≤ M.length
  gr : Gr m M
  old : ∀ p, p < ML.length → p ≠ x10 → M[p]? = ML[p]?
  box : M[x10]? = some (.live [.slice out i i])
  row : Rw ML.length M out i D 64 none
  D_ : ∀ j, j < i → ML.length ≤ D j ∧ M[D j]? = some (.live (bys 64 (GF.cw gC (msgs w u j)))) ∧ (∀ q, out = some ⟨q, 0, some 1⟩ → D j ≠ q) ∧ ∀ j', j' < i → j ≠ j' → D j ≠ D j'

theorem lay_ok (k : Nat) (hk : 1000 < k) {m : Mem} {c : Nat} {a b : Option Addr} {ca cb : Nat} {w u : Nat → GF} (hC : Frm m c) (ha : Src m a 174 w) (hb : Src m b 50 u) :
    Ok (frame_Frame_Lay k (some ⟨c, 0, none⟩) a 174 ca b 50 cb m) fun r => ∃ q D, r.1 = ⟨some ⟨q, 0, some 1⟩, 4, 4⟩ ∧ r.2.1 = .nilIface ∧ Gr m r.2.2 ∧ m.length ≤ q ∧ r.2.2[q]? = some (.live (sls 4 D (fun _ => 64) none)) ∧
      ∀ i, i < 4 → m.length ≤ D i ∧ D i ≠ q ∧ r.2.2[D i]? = some (.live (bys 64 (GF.cw gC (msgs w u i)))) ∧ ∀ j, j < 4 → i ≠ j → D i ≠ D j := by
  unfold frame_Frame_Lay
  have l1 : (m ++ [MObj.live [Value.pointer (some ⟨c, 0, none⟩)]]).length = m.length + 1 := by simp
  have l2 : ((m ++ [MObj.live [Value.pointer (some ⟨c, 0, none⟩)]]) ++ [MObj.live [.slice none 0 0]]).length = m.length + 2 := by simp
  have l3 : (((m ++ [MObj.live [Value.pointer (some ⟨c, 0, none⟩)]]) ++ [MObj.live [.slice none 0 0]]) ++ [MObj.live [.nilIface]]).length = m.length + 3 := by simp
  have g3 := (((Gr.app m [.live [Value.pointer (some ⟨c, 0, none⟩)]]).trans (Gr.app _ [.live [.slice none 0 0]])).trans (Gr.app _ [.live [.nilIface]]))
  have x3 : (((m ++ [MObj.live [Value.pointer (some ⟨c, 0, none⟩)]]) ++ [MObj.live [.slice none 0 0]]) ++ [MObj.live [.nilIface]])[m.length]? = some (.live [Value.pointer (some ⟨c, 0, none⟩)]) := get_grow (get_grow (get_last rfl))
  have x6 : (((m ++ [MObj.live [Value.pointer (some ⟨c, 0, none⟩)]]) ++ [MObj.live [.slice none 0 0]]) ++ [MObj.live [.nilIface]])[m.length + 1]? = some (.live [.slice none 0 0]) := get_grow (get_last (by simp))
  have x7 : (((m ++ [MObj.live [Value.pointer (some ⟨c, 0, none⟩)]]) ++ [MObj.live [.slice none 0 0]]) ++ [MObj.live [.nilIface]])[m.length + 2]? = some (.live [.nilIface]) := get_last (by simp)
  have e0 : (((174 : Nat) : Int) != 174) = false := rfl
  simp (disch := omega) only [Option.bind_some, Option.map_some, cond_true, cond_false, wrap_i64, tmod_pos, tdiv_pos, inRange_yes, inUpto_yes, isZero_no, decide_eq_true, decide_eq_false, Bool.not_true, Bool.not_false, Int.toNat_natCast, Nat.mul_one, beqI_yes, beqI_no, bneI_yes, bneI_no, isNil_nil, isNil_iface, wr_wr, Option.isNone_none, Option.isNone_some, plus, Nat.zero_add, Nat.add_zero, l1, l2, e0]
  generalize ((m ++ [MObj.live [Value.pointer (some ⟨c, 0, none⟩)]]) ++ [MObj.live [.slice none 0 0]]) ++ [MObj.live [.nilIface]] = M3 at *
  refine .bind (seal_ok k (c := cb) (hb.grow g3)) ?_
  rintro ⟨_, _, M0⟩ ⟨rfl, rfl, hg0, hs⟩
  simp only at hg0 hs ⊢
  have g0 := g3.trans hg0
  have hl0 : m.length + 3 ≤ M0.length := by have := hg0.len; omega
  have hs_lt := get_lt hs
  have z10 := get_last (m := M0) (o := .live [.slice none 0 0]) rfl
  have g10 := g0.trans (Gr.app M0 [.live [.slice none 0 0]])
  have s10 := get_grow (g := [.live [.slice none 0 0]]) hs
  have x3a := get_grow (g := [.live [.slice none 0 0]]) (hg0.get x3)
  have x6a := get_grow (g := [.live [.slice none 0 0]]) (hg0.get x6)
  have x7a := get_grow (g := [.live [.slice none 0 0]]) (hg0.get x7)
  have hl10 : (M0 ++ [MObj.live [.slice none 0 0]]).length = M0.length + 1 := by simp
  simp (disch := omega) only [Option.bind_some, Option.map_some, cond_true, cond_false, wrap_i64, tmod_pos, tdiv_pos, inRange_yes, inUpto_yes, isZero_no, decide_eq_true, decide_eq_false, Bool.not_true, Bool.not_false, Int.toNat_natCast, Nat.mul_one, beqI_yes, beqI_no, bneI_yes, bneI_no, isNil_nil, isNil_iface, wr_wr, Option.isNone_none, Option.isNone_some, plus, Nat.zero_add, Nat.add_zero, isNil_nil]
  generalize M0 ++ [MObj.live [.slice none 0 0]] = M1 at *
  have e1 : rdSl M1 a 174 1 = some (bys 174 w) := ha.grow g10
  have e2 : appM 1 1 M1 none 0 0 174 (bys 174 w) = some (⟨some ⟨M1.length, 0, some 1⟩, 174, 174⟩, M1 ++ [.live (bys 174 w)]) := appM_first (by omega) (by unfold most; omega) (by unfold most; omega)
  have d1 := get_last (m := M1) (o := .live (bys 174 w)) rfl
  have e3 : rdSl (M1 ++ [.live (bys 174 w)]) (some ⟨M3.length, 0, none⟩) 58 1 = some (bys 58 (sealed u)) := Src.of (get_grow s10)
  have e4 : appM 1 1 (M1 ++ [.live (bys 174 w)]) (some ⟨M1.length, 0, some 1⟩) 174 174 58 (bys 58 (sealed u)) = some (⟨some ⟨(M1 ++ [MObj.live (bys 174 w)]).length, 0, some 1⟩, 174 + 58, 174 + 58⟩, (M1 ++ [MObj.live (bys 174 w)]).set M1.length (.old (bys 174 w) (M1 ++ [MObj.live (bys 174 w)]).length) ++ [.live (bys 174 w ++ bys 58 (sealed u))]) :=
    appM_grow d1 (by rw [bys_len]) (by omega) (by unfold most; omega) (by unfold most; omega)
  have hset : (M1 ++ [MObj.live (bys 174 w)]).set M1.length (.old (bys 174 w) (M1 ++ [MObj.live (bys 174 w)]).length) = M1 ++ [.old (bys 174 w) (M0.length + 2)] := by rw [List.set_append_right _ _ (Nat.le_refl _)]; simp [hl10]
  have hwh : bys 174 w ++ bys 58 (sealed u) = bys 232 (whole w u) := bys_append
  have hl11 : (M1 ++ [MObj.live (bys 174 w)]).length = M0.length + 2 := by simp [hl10]
  rw [hset, hwh, hl11] at e4
  have l14 : (M1 ++ [MObj.old (bys 174 w) (M0.length + 2)] ++ [MObj.live (bys 232 (whole w u))]).length = M0.length + 3 := by simp [hl10]
  have e5 := pieces_is k (M1 ++ [MObj.old (bys 174 w) (M0.length + 2)] ++ [MObj.live (bys 232 (whole w u))]) (some ⟨M0.length + 2, 0, some 1⟩) 232 232 58
  rw [l14] at e5
  have hgL : Gr M1 (M1 ++ [MObj.old (bys 174 w) (M0.length + 2)] ++ [MObj.live (bys 232 (whole w u))] ++ [MObj.live [.slice (some ⟨M0.length + 2, 0, some 1⟩) 232 232], .live [.int .i64 58]]) := ((Gr.app M1 _).trans (Gr.app _ _)).trans (Gr.app _ _)
  have ws : (M1 ++ [MObj.old (bys 174 w) (M0.length + 2)] ++ [MObj.live (bys 232 (whole w u))] ++ [MObj.live [.slice (some ⟨M0.length + 2, 0, some 1⟩) 232 232], .live [.int .i64 58]])[M0.length + 2]? = some (.live (bys 232 (whole w u))) := get_grow (get_last (by simp [hl10]))
  have wb : (M1 ++ [MObj.old (bys 174 w) (M0.length + 2)] ++ [MObj.live (bys 232 (whole w u))] ++ [MObj.live [.slice (some ⟨M0.length + 2, 0, some 1⟩) 232 232], .live [.int .i64 58]])[M0.length + 3]? = some (.live [.slice (some ⟨M0.length + 2, 0, some 1⟩) 232 232]) := by
    rw [List.getElem?_append_right (by omega), l14]; simp
  have wz : (M1 ++ [MObj.old (bys 174 w) (M0.length + 2)] ++ [MObj.live (bys 232 (whole w u))] ++ [MObj.live [.slice (some ⟨M0.length + 2, 0, some 1⟩) 232 232], .live [.int .i64 58]])[M0.length + 3 + 1]? = some (.live [.int .i64 58]) := by
    rw [List.getElem?_append_right (by omega), l14]; simp
  have hlL : (M1 ++ [MObj.old (bys 174 w) (M0.length + 2)] ++ [MObj.live (bys 232 (whole w u))] ++ [MObj.live [.slice (some ⟨M0.length + 2, 0, some 1⟩) 232 232], .live [.int .i64 58]]).length = M0.length + 5 := by simp [hl10]
  simp (disch := omega) only [Option.bind_some, Option.map_some, cond_true, cond_false, wrap_i64, tmod_pos, tdiv_pos, inRange_yes, inUpto_yes, isZero_no, decide_eq_true, decide_eq_false, Bool.not_true, Bool.not_false, Int.toNat_natCast, Nat.mul_one, beqI_yes, beqI_no, bneI_yes, bneI_no, isNil_nil, isNil_iface, wr_wr, Option.isNone_none, Option.isNone_some, plus, Nat.zero_add, Nat.add_zero, e1, e2, e3, e4, e5]
  generalize (M1 ++ [MObj.old (bys 174 w) (M0.length + 2)] ++ [MObj.live (bys 232 (whole w u))] ++ [MObj.live [.slice (some ⟨M0.length + 2, 0, some 1⟩) 232 232], .live [.int .i64 58]]) = ML at *
  have gL := g10.trans hgL
  refine frame_Frame_Lay_r0_rule k _ _ _ _ _ _ _ (fun r si M => ∃ (i : Nat) (out : Option Addr) (D : Nat → Nat), si = i ∧ i + r = 4 ∧ LyI m ML M0.length w u i M out D) ?_ k 4 _ _ (by omega)
    ⟨0, none, fun _ => 0, rfl, rfl, ⟨Nat.le_refl _, gL, fun _ _ _ => rfl, hgL.get z10, .inl ⟨rfl, rfl⟩, fun j hj => by omega⟩⟩
  rintro r nx _ M ⟨i, out, D, rfl, hr, hI⟩ hnx
  unfold frame_Frame_Lay_r0_b
  have b1 : M[M0.length + 3]? = _ := (hI.old _ (by omega) (by omega)).trans wb
  have b2 : M[M0.length + 3 + 1]? = _ := (hI.old _ (by omega) (by omega)).trans wz
  have b3 : M[M0.length + 2]? = _ := (hI.old _ (by omega) (by omega)).trans ws
  have b4 : M[m.length]? = _ := (hI.old _ (by omega) (by omega)).trans (hgL.get x3a)
  have b6 : M[m.length + 1]? = _ := (hI.old _ (by omega) (by omega)).trans (hgL.get x6a)
  have b7 : M[m.length + 2]? = _ := (hI.old _ (by omega) (by omega)).trans (hgL.get x7a)
  by_cases hi : i < 4
  · rw [pcs_next (s := 58) b1 b2 (.inr rfl) (by omega) (by omega) (by omega) (by omega) (by omega)]
    obtain ⟨cd, c1, c2⟩ := hC.grow hI.gr
    have f1 : ldPtr M ⟨m.length, 0, none⟩ = some (some ⟨c, 0, none⟩) := ldPtr_of b4 rfl
    have f2 : ldPtr M ⟨c, 0, none⟩ = some (some ⟨cd, 0, none⟩) := ldPtr_of c1 rfl
    simp (disch := omega) only [Option.bind_some, Option.map_some, cond_true, cond_false, wrap_i64, tmod_pos, tdiv_pos, inRange_yes, inUpto_yes, isZero_no, decide_eq_true, decide_eq_false, Bool.not_true, Bool.not_false, Int.toNat_natCast, Nat.mul_one, beqI_yes, beqI_no, bneI_yes, bneI_no, isNil_nil, isNil_iface, wr_wr, Option.isNone_none, Option.isNone_some, plus, Nat.zero_add, Nat.add_zero, f1, f2]
    have hsrc : Src M (some ⟨M0.length + 2, i * 58, some 1⟩) 58 (msgs w u i) := Src.sub (sp := some 1) b3 (by omega)
    refine .bind (encode_ok k hk c2 (cc := 232 - i * 58) hsrc) ?_
    rintro ⟨_, _, M2⟩ ⟨d, rfl, rfl, hg2, hd, h2⟩
    simp only at hg2 h2 ⊢
    have x10 := hg2.get hI.box
    have f3 : ldSl M2 ⟨M0.length, 0, none⟩ = some ⟨out, i, i⟩ := ldSl_of x10 rfl
    have hdl := get_lt h2
    have hml := hI.len
    have hgl := hg2.len
    have row2 := (hI.row.grow hg2).grow (Gr.app M2 [.live [.slice (some ⟨d, 0, none⟩) 64 64]])
    have hl2' : (M2 ++ [MObj.live [.slice (some ⟨d, 0, none⟩) 64 64]]).length = M2.length + 1 := by simp
    obtain ⟨M4, q1, q2, q3, q4, q5⟩ := row2.app (d := d) (by omega) (by omega)
    rw [hl2'] at q1 q2 q3 q4
    have outne : ∀ q, out = some ⟨q, 0, some 1⟩ → ML.length ≤ q ∧ q < M.length := by
      rintro q rfl
      rcases hI.row with ⟨h, _⟩ | ⟨q', h, h1, h2⟩
      · cases h
      · simp only [Option.some.injEq, Addr.mk.injEq, and_true] at h
        subst h
        exact ⟨h1, get_lt h2⟩
    have x10b : M4[M0.length]? = some (.live [.slice out i i]) := by
      rw [q4 _ (by omega) fun q hq => by have := outne q hq; omega]; exact get_grow x10
    have f4 := st_wr (sp := none) (off := 0) (v := .slice (some ⟨M2.length + 1, 0, some 1⟩) (i + 1) (i + 1)) x10b (by simp)
    have hst : ([.slice out i i] : List Value).set 0 (.slice (some ⟨M2.length + 1, 0, some 1⟩) (i + 1) (i + 1)) = [.slice (some ⟨M2.length + 1, 0, some 1⟩) (i + 1) (i + 1)] := rfl
    rw [hst] at f4
    simp (disch := omega) only [Option.bind_some, Option.map_some, cond_true, cond_false, wrap_i64, tmod_pos, tdiv_pos, inRange_yes, inUpto_yes, isZero_no, decide_eq_true, decide_eq_false, Bool.not_true, Bool.not_false, Int.toNat_natCast, Nat.mul_one, beqI_yes, beqI_no, bneI_yes, bneI_no, isNil_nil, isNil_iface, wr_wr, Option.isNone_none, Option.isNone_some, plus, Nat.zero_add, Nat.add_zero, isNil_nil, f3, rdSl_new, q1, f4]
    have keep : ∀ p, p < M2.length → p ≠ M0.length → (∀ q, out = some ⟨q, 0, some 1⟩ → p ≠ q) → (wr M4 M0.length [.slice (some ⟨M2.length + 1, 0, some 1⟩) (i + 1) (i + 1)])[p]? = M2[p]? := fun p hp h1 h2 => by
      rw [wr_ne (Ne.symm h1), q4 p (by omega) h2, get_app_lt hp]
    refine hnx (r - 1) _ _ (by omega) ⟨i + 1, _, fun j => if j = i then d else D j, rfl, by omega, ⟨by rw [wr_len]; omega, (q5 m ((hI.gr.trans hg2).trans (Gr.app _ _)) (by have := gL.len; omega)).wr (by omega) _, fun p hp h1 => ?_, wr_get x10b, .inr ⟨M2.length + 1, rfl, by omega, ?_⟩, fun j hj => ?_⟩⟩
    · rw [keep p (by omega) h1 fun q hq => by have := outne q hq; omega]
      rw [← hI.old p hp h1]
      obtain ⟨g, rfl⟩ := hg2
      exact get_app_lt (by omega)
    · rw [wr_ne (by omega), q3]
    · by_cases h1 : j = i
      · subst h1
        simp only [↓reduceIte]
        refine ⟨by omega, ?_, fun q hq => by cases hq; omega, fun j' hj' hne => ?_⟩
        · rw [keep d hdl (by omega) fun q hq => by have := outne q hq; omega]; exact h2
        · rw [if_neg (by omega)]
          obtain ⟨z1, z2, _⟩ := hI.D_ j' (by omega)
          have := get_lt z2
          omega
      · obtain ⟨z1, z2, z3, z4⟩ := hI.D_ j (by omega)
        have z5 := get_lt z2
        simp only [if_neg h1]
        refine ⟨z1, ?_, fun q hq => by cases hq; omega, fun j' hj' hne => ?_⟩
        · rw [keep _ (by omega) (by omega) z3]; exact hg2.get z2
        · by_cases h3 : j' = i
          · rw [if_pos h3]; omega
          · rw [if_neg h3]; exact z4 j' (by omega) hne
  · obtain rfl : i = 4 := by omega
    rw [pcs_end (s := 58) b1 b2 (by omega) (by omega) (by omega) (by omega)]
    rcases hI.row with ⟨_, h⟩ | ⟨q, hq, hq1, hq2⟩
    · omega
    subst hq
    have f1 : ldSl M ⟨M0.length, 0, none⟩ = some ⟨some ⟨q, 0, some 1⟩, 4, 4⟩ := ldSl_of hI.box rfl
    have f2 := st_wr (sp := none) (off := 0) (v := .slice (some ⟨q, 0, some 1⟩) 4 4) b6 (by simp)
    have y7 : (wr M (m.length + 1) (([.slice none 0 0] : List Value).set 0 (.slice (some ⟨q, 0, some 1⟩) 4 4)))[m.length + 2]? = some (.live [.nilIface]) := by rw [wr_ne (by omega)]; exact b7
    have f3 := st_wr (sp := none) (off := 0) (v := .nilIface) y7 (by simp)
    have f4 : ldSl (wr (wr M (m.length + 1) (([.slice none 0 0] : List Value).set 0 (.slice (some ⟨q, 0, some 1⟩) 4 4))) (m.length + 2) (([.nilIface] : List Value).set 0 .nilIface)) ⟨m.length + 1, 0, none⟩ = some ⟨some ⟨q, 0, some 1⟩, 4, 4⟩ := ldSl_of (cs := [.slice (some ⟨q, 0, some 1⟩) 4 4]) (by rw [wr_ne (by omega)]; exact wr_get b6) rfl
    have f5 : ldVal (wr (wr M (m.length + 1) (([.slice none 0 0] : List Value).set 0 (.slice (some ⟨q, 0, some 1⟩) 4 4))) (m.length + 2) (([.nilIface] : List Value).set 0 .nilIface)) ⟨m.length + 2, 0, none⟩ = some .nilIface := ldVal_of (cs := [.nilIface]) (wr_get y7) rfl
    simp (disch := omega) only [Option.bind_some, Option.map_some, cond_true, cond_false, wrap_i64, tmod_pos, tdiv_pos, inRange_yes, inUpto_yes, isZero_no, decide_eq_true, decide_eq_false, Bool.not_true, Bool.not_false, Int.toNat_natCast, Nat.mul_one, beqI_yes, beqI_no, bneI_yes, bneI_no, isNil_nil, isNil_iface, wr_wr, Option.isNone_none, Option.isNone_some, plus, Nat.zero_add, Nat.add_zero, f1, f2, f3, f4, f5]
    have mlL := gL.len
    refine .some ⟨q, D, rfl, rfl, (hI.gr.wr (by omega) _).wr (by omega) _, by omega, ?_, fun i hi => ?_⟩
    · show (wr (wr M _ _) _ _)[q]? = _
      rw [wr_ne (by omega), wr_ne (by omega)]; exact hq2
    · obtain ⟨z1, z2, z3, z4⟩ := hI.D_ i hi
      refine ⟨by omega, z3 q rfl, ?_, z4⟩
      show (wr (wr M _ _) _ _)[D i]? = _
      rw [wr_ne (by omega), wr_ne (by omega)]; exact z2
end Go.Proofs.Ytmfmoanjecjeeaa
