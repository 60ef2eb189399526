/- What the reference's checkpoints' functions do: those that read. -/
import Derived.Test.YtnilidpafijdlacPoint
import Derived.Test.YtnilidpafijdlacFpatinaref09
set_option linter.unusedVariables false
set_option linter.unusedSectionVars false
set_option linter.unusedSimpArgs false
namespace Go.Proofs.Ytnilidpafijdlac
open Go.Mx

section
variable {ob : MObj} {b off n : Nat} {sp : Option Nat} {f : Int → Int} (hs : Has ob off n f) (hf : Byt f)
include hs hf
theorem number_loop (k : Nat) (kx : Int → Mem → Option (Int × Mem)) {m : Mem} (hb : m[b]? = some ob) {o l c' : Nat} (hl : l ≤ 5) (ho : o + l ≤ n) : ∀ (j fuel : Nat), j ≤ l → j < fuel →
    patinaref09_number_l0 k kx fuel (some ⟨b, off + o, sp⟩) l c' (num f (o + j) (l - j)) ((j : Int) - 1) m = kx (num f o l) m
  | 0, fuel + 1, h1, h2 => by
    unfold patinaref09_number_l0 patinaref09_number_l0_b
    simp (disch := omega) only [Option.bind_some, Option.map_some, cond_true, cond_false, wrap_i64, tmod_pos, tdiv_pos, inRange_yes, inUpto_yes, isZero_no, decide_eq_true, decide_eq_false, Bool.not_true, Bool.not_false, Int.toNat_natCast, Nat.mul_one, beqI_yes, beqI_no, bneI_yes, bneI_no, isNil_nil, isNil_iface, wr_wr, Option.isNone_none, Option.isNone_some, plus, Nat.zero_add, Nat.add_zero, Int.natCast_zero, Int.add_zero, Nat.sub_zero]
  | j + 1, fuel + 1, h1, h2 => by
    unfold patinaref09_number_l0 patinaref09_number_l0_b
    have ih := number_loop k kx hb hl ho j fuel (by omega) (by omega) (c' := c')
    have h3 := hf (o + j)
    have h4 := num_bd5 hf (n := l - (j + 1)) (by omega) (o + (j + 1))
    have e := hs.ld (sp := sp) hb (i := o + j) (by omega)
    rw [← Nat.add_assoc, Int.natCast_add] at e
    have e1 : (((j + 1 : Nat) : Int) - 1) = (j : Int) := by omega
    have e2 := num_front f (l - (j + 1)) (o + j)
    rw [show l - (j + 1) + 1 = l - j by omega, Int.add_assoc] at e2
    simp only [e1]
    rw [show ((j + 1 : Nat) : Int) = (j : Int) + 1 by omega]
    simp (disch := omega) only [Option.bind_some, Option.map_some, cond_true, cond_false, wrap_i64, tmod_pos, tdiv_pos, inRange_yes, inUpto_yes, isZero_no, decide_eq_true, decide_eq_false, Bool.not_true, Bool.not_false, Int.toNat_natCast, Nat.mul_one, beqI_yes, beqI_no, bneI_yes, bneI_no, isNil_nil, isNil_iface, wr_wr, Option.isNone_none, Option.isNone_some, plus, Nat.zero_add, Nat.add_zero, e]
    rw [show 256 * num f (o + (j + 1)) (l - (j + 1)) + f (o + j) = num f (o + j) (l - j) by omega]
    exact ih
theorem number_is (k : Nat) (hk : 10 < k) {m : Mem} (hb : m[b]? = some ob) {o l c' : Nat} (hl : l ≤ 5) (ho : o + l ≤ n) :
    patinaref09_number k (some ⟨b, off + o, sp⟩) l c' m = some (num f o l, m) := by
  unfold patinaref09_number
  have := number_loop (sp := sp) (c' := c') hs hf k (fun y3 m3 => some (y3, m3)) hb hl ho l k (Nat.le_refl _) (by omega)
  rw [Nat.sub_self, num] at this
  simp (disch := omega) only [Option.bind_some, Option.map_some, cond_true, cond_false, wrap_i64, tmod_pos, tdiv_pos, inRange_yes, inUpto_yes, isZero_no, decide_eq_true, decide_eq_false, Bool.not_true, Bool.not_false, Int.toNat_natCast, Nat.mul_one, beqI_yes, beqI_no, bneI_yes, bneI_no, isNil_nil, isNil_iface, wr_wr, Option.isNone_none, Option.isNone_some, plus, Nat.zero_add, Nat.add_zero]
  exact this
end

theorem rrd_short (k : Nat) {a : Option Addr} {n c : Nat} {m : Mem} {F : Heap} (hO : Own m F) (hn : n ≠ 174) :
    Ok (patinaref09_Read k a n c m) fun r => r.1 = ckC zck ∧ r.2.1 = 3 ∧ Own r.2.2 F := by
  have h1 := (hO.new (.live (ckC zck))).new (.live (ckC zck))
  have hl : Nat.beq (ckC zck).length 62 = true := by rw [ckC_len]; rfl
  unfold patinaref09_Read
  simp only [zck_cells]
  have e0 := stCells_wr (sp := none) (vs := ckC zck) (h1.at 0 rfl) (off := 0) (by simp)
  rw [List.take_zero, List.nil_append, List.drop_of_length_le (by simp), List.append_nil] at e0
  have h1 := h1.wr 0 rfl (ckC zck)
  have e1 := ldCells_of (n := 62) (sp := none) (h1.at 0 rfl) (off := 0) (by simp)
  rw [List.drop_zero, List.take_of_length_le (by simp)] at e1
  have e2 := stCells_wr (sp := none) (vs := ckC zck) (h1.at 1 rfl) (off := 0) (by simp)
  have h2 := h1.wr 1 rfl (ckC zck)
  rw [List.take_zero, List.nil_append, List.drop_of_length_le (by simp), List.append_nil] at e2
  have e3 := ldCells_of (n := 62) (sp := none) (h2.at 1 rfl) (off := 0) (by simp)
  rw [List.drop_zero, List.take_of_length_le (by simp)] at e3
  simp (disch := omega) only [Option.bind_some, Option.map_some, cond_true, cond_false, wrap_i64, tmod_pos, tdiv_pos, inRange_yes, inUpto_yes, isZero_no, decide_eq_true, decide_eq_false, Bool.not_true, Bool.not_false, Int.toNat_natCast, Nat.mul_one, beqI_yes, beqI_no, bneI_yes, bneI_no, isNil_nil, isNil_iface, wr_wr, Option.isNone_none, Option.isNone_some, plus, Nat.zero_add, Nat.add_zero, e0, e1, hl, e2, e3]
  exact .some ⟨rfl, rfl, h2.tail.tail⟩

section
variable {ob : MObj} {b off c : Nat} {sp : Option Nat} {f : Int → Int} (hs : Has ob off 174 f) (hf : Byt f) (hsp : sp = none ∨ sp = some 1) (hc : 174 ≤ c)
include hs hf hsp hc
theorem rRead_ok (k : Nat) (hk : 200 < k) {m : Mem} {F : Heap} (hO : Own m ((b, ob) :: F)) :
    Ok (patinaref09_Read k (some ⟨b, off, sp⟩) 174 c m) fun r => r.1 = ckC (bif good f then dec f else zck) ∧ r.2.1 = (bif good f then 0 else 3) ∧ Own r.2.2 ((b, ob) :: F) := by
  have h1 := (hO.new (.live (ckC zck))).new (.live (ckC zck))
  have hl : Nat.beq (ckC zck).length 62 = true := by rw [ckC_len]; rfl
  unfold patinaref09_Read
  simp only [zck_cells]
  have e0 := stCells_wr (sp := none) (vs := ckC zck) (h1.at 0 rfl) (off := 0) (by simp)
  rw [List.take_zero, List.nil_append, List.drop_of_length_le (by simp), List.append_nil] at e0
  have h2 := (h1.wr 0 rfl (ckC zck)).pick [0, 2, 1] 3 (by decide)
  simp only [pickL, List.filterMap, List.getElem?_cons_zero, List.getElem?_cons_succ, List.drop_succ_cons, List.drop_zero, List.cons_append, List.nil_append, List.set_cons_zero] at h2
  clear h1
  generalize m ++ [MObj.live (ckC zck)] ++ [MObj.live (ckC zck)] = m2 at e0 h2 ⊢
  generalize (m ++ [MObj.live (ckC zck)]).length = x4 at e0 h2 ⊢
  generalize m.length = x2 at e0 h2 ⊢
  simp (disch := omega) only [Option.bind_some, Option.map_some, cond_true, cond_false, wrap_i64, tmod_pos, tdiv_pos, inRange_yes, inUpto_yes, isZero_no, decide_eq_true, decide_eq_false, Bool.not_true, Bool.not_false, Int.toNat_natCast, Nat.mul_one, beqI_yes, beqI_no, bneI_yes, bneI_no, isNil_nil, isNil_iface, wr_wr, Option.isNone_none, Option.isNone_some, plus, Nat.zero_add, Nat.add_zero, e0]
  clear e0
  generalize wr m2 x4 (ckC zck) = m0 at h2 ⊢
  -- the ways out
  have out : ∀ {m' : Mem} {τ : Ck}, Own m' ((x4, .live (ckC τ)) :: (b, ob) :: (x2, .live (ckC zck)) :: F) → ldCells m' ⟨x4, 0, none⟩ 62 = some (ckC τ) ∧ stCells m' ⟨x2, 0, none⟩ (ckC τ) = some (wr m' x2 (ckC τ)) ∧ ldCells (wr m' x2 (ckC τ)) ⟨x2, 0, none⟩ 62 = some (ckC τ) ∧ Own (wr m' x2 (ckC τ)) ((b, ob) :: F) := by
    intro m' τ h
    have e1 := ldCells_of (n := 62) (sp := none) (h.at 0 rfl) (off := 0) (by simp)
    rw [List.drop_zero, List.take_of_length_le (by simp)] at e1
    have e2 := stCells_wr (sp := none) (vs := ckC τ) (h.at 2 rfl) (off := 0) (by simp)
    rw [List.take_zero, List.nil_append, List.drop_of_length_le (by simp), List.append_nil] at e2
    have h3 := h.wr 2 rfl (ckC τ)
    have e3 := ldCells_of (n := 62) (sp := none) (h3.at 2 rfl) (off := 0) (by simp)
    rw [List.drop_zero, List.take_of_length_le (by simp)] at e3
    exact ⟨e1, e2, e3, by simpa [pickL] using h3.pick [1] 3 (by decide)⟩
  have hlen : ∀ τ : Ck, Nat.beq (ckC τ).length 62 = true := by intro τ; rw [ckC_len]; rfl
  obtain ⟨z1, z2, z3, z4⟩ := out h2
  have e126 := hs.ld (sp := sp) (h2.at 1 rfl) (i := 126) (by omega)
  have e127 := hs.ld (sp := sp) (h2.at 1 rfl) (i := 127) (by omega)
  have c126 : ((126 : Nat) : Int) = 126 := rfl
  have c127 : ((127 : Nat) : Int) = 127 := rfl
  have t126 : Int.toNat 126 = 126 := rfl
  have t127 : Int.toNat 127 = 127 := rfl
  rw [c126] at e126
  rw [c127] at e127
  simp (disch := omega) only [Option.bind_some, Option.map_some, cond_true, cond_false, wrap_i64, tmod_pos, tdiv_pos, inRange_yes, inUpto_yes, isZero_no, decide_eq_true, decide_eq_false, Bool.not_true, Bool.not_false, Int.toNat_natCast, Nat.mul_one, beqI_yes, beqI_no, bneI_yes, bneI_no, isNil_nil, isNil_iface, wr_wr, Option.isNone_none, Option.isNone_some, plus, Nat.zero_add, Nat.add_zero, t126, t127, e126, e127]
  by_cases hg1 : f 126 ≤ 15
  rotate_left
  · have hgd : good f = false := by
      unfold good
      rw [decide_eq_false hg1]; rfl
    rw [hgd]
    simp (disch := omega) only [Option.bind_some, Option.map_some, cond_true, cond_false, wrap_i64, tmod_pos, tdiv_pos, inRange_yes, inUpto_yes, isZero_no, decide_eq_true, decide_eq_false, Bool.not_true, Bool.not_false, Int.toNat_natCast, Nat.mul_one, beqI_yes, beqI_no, bneI_yes, bneI_no, isNil_nil, isNil_iface, wr_wr, Option.isNone_none, Option.isNone_some, plus, Nat.zero_add, Nat.add_zero, z1, hlen, z2, z3]
    exact .some ⟨rfl, rfl, z4⟩
  by_cases hg2 : f 127 ≤ 95
  rotate_left
  · have hgd : good f = false := by
      unfold good
      rw [decide_eq_false hg2, Bool.and_false]; rfl
    rw [hgd]
    simp (disch := omega) only [Option.bind_some, Option.map_some, cond_true, cond_false, wrap_i64, tmod_pos, tdiv_pos, inRange_yes, inUpto_yes, isZero_no, decide_eq_true, decide_eq_false, Bool.not_true, Bool.not_false, Int.toNat_natCast, Nat.mul_one, beqI_yes, beqI_no, bneI_yes, bneI_no, isNil_nil, isNil_iface, wr_wr, Option.isNone_none, Option.isNone_some, plus, Nat.zero_add, Nat.add_zero, z1, hlen, z2, z3]
    exact .some ⟨rfl, rfl, z4⟩
  simp (disch := omega) only [Option.bind_some, Option.map_some, cond_true, cond_false, wrap_i64, tmod_pos, tdiv_pos, inRange_yes, inUpto_yes, isZero_no, decide_eq_true, decide_eq_false, Bool.not_true, Bool.not_false, Int.toNat_natCast, Nat.mul_one, beqI_yes, beqI_no, bneI_yes, bneI_no, isNil_nil, isNil_iface, wr_wr, Option.isNone_none, Option.isNone_some, plus, Nat.zero_add, Nat.add_zero]
  clear e126 e127
  refine patinaref09_Read_l0_rule k _ _ (fun d ya yn yc y2 y4 i m' => (some ⟨b, off, sp⟩ : Option Addr) = ya ∧ 174 = yn ∧ c = yc ∧ (⟨x2, 0, none⟩ : Addr) = y2 ∧ (⟨x4, 0, none⟩ : Addr) = y4 ∧ m0 = m' ∧ ∃ j : Nat, i = ((164 + j : Nat) : Int) ∧ j + d = 10 ∧ ∀ q : Nat, q < j → f (164 + q) = 0) ?_ k 10 _ _ _ _ _ 164 _ (by omega) ⟨rfl, rfl, rfl, rfl, rfl, rfl, 0, rfl, by omega, by omega⟩
  rintro d nx _ _ _ _ _ _ _ ⟨rfl, rfl, rfl, rfl, rfl, rfl, j, rfl, hd, hz⟩ hnx
  unfold patinaref09_Read_l0_b
  by_cases h1 : j < 10
  · have e := hs.ld (sp := sp) (h2.at 1 rfl) (i := 164 + j) (by omega)
    have ec : ((164 + j : Nat) : Int) = 164 + (j : Int) := by omega
    by_cases h3 : f (164 + j) = 0
    · rw [ec, h3] at e
      simp (disch := omega) only [Option.bind_some, Option.map_some, cond_true, cond_false, wrap_i64, tmod_pos, tdiv_pos, inRange_yes, inUpto_yes, isZero_no, decide_eq_true, decide_eq_false, Bool.not_true, Bool.not_false, Int.toNat_natCast, Nat.mul_one, beqI_yes, beqI_no, bneI_yes, bneI_no, isNil_nil, isNil_iface, wr_wr, Option.isNone_none, Option.isNone_some, plus, Nat.zero_add, Nat.add_zero, e]
      refine hnx (d - 1) _ _ _ _ _ _ _ (by omega) ⟨rfl, rfl, rfl, rfl, rfl, rfl, j + 1, by omega, by omega, fun q hq => ?_⟩
      by_cases hqj : q = j
      · subst hqj; exact h3
      · exact hz q (by omega)
    · have hgd : good f = false := by
        unfold good
        rw [decide_eq_false (p := ∀ j : Nat, j < 10 → f (164 + j) = 0) (fun h4 => h3 (h4 j h1)), Bool.and_false]
      rw [hgd]
      rw [ec] at e
      simp (disch := omega) only [Option.bind_some, Option.map_some, cond_true, cond_false, wrap_i64, tmod_pos, tdiv_pos, inRange_yes, inUpto_yes, isZero_no, decide_eq_true, decide_eq_false, Bool.not_true, Bool.not_false, Int.toNat_natCast, Nat.mul_one, beqI_yes, beqI_no, bneI_yes, bneI_no, isNil_nil, isNil_iface, wr_wr, Option.isNone_none, Option.isNone_some, plus, Nat.zero_add, Nat.add_zero, e, z1, hlen, z2, z3]
      exact .some ⟨rfl, rfl, z4⟩
  obtain rfl : j = 10 := by omega
  have hgd : good f = true := by
    unfold good
    rw [decide_eq_true hg1, decide_eq_true hg2, decide_eq_true hz]; rfl
  rw [hgd]
  clear z1 z2 z3 z4 hnx
  simp (disch := omega) only [Option.bind_some, Option.map_some, cond_true, cond_false, wrap_i64, tmod_pos, tdiv_pos, inRange_yes, inUpto_yes, isZero_no, decide_eq_true, decide_eq_false, Bool.not_true, Bool.not_false, Int.toNat_natCast, Nat.mul_one, beqI_yes, beqI_no, bneI_yes, bneI_no, isNil_nil, isNil_iface, wr_wr, Option.isNone_none, Option.isNone_some, plus, Nat.zero_add, Nat.add_zero]
  have hnb2 := num_bd hf 2 125
  simp only [Int.reducePow] at hnb2
  have okz := okZ_is (b := b) (off := off) hsp
  have hx4 : ∀ {m' : Mem} {σ τ : Ck} {G : Heap} {j : Nat} {v : Value}, Own m' ((x4, .live (ckC σ)) :: G) → (ckC σ).set j v = ckC τ → j < 62 → st m' ⟨x4, j, none⟩ v = some (wr m' x4 (ckC τ)) ∧ Own (wr m' x4 (ckC τ)) ((x4, .live (ckC τ)) :: G) := by
    intro m' σ τ G j v h1 h2 h3
    exact ⟨by rw [st_wr (h1.at 0 rfl) (by simpa using h3), h2], h1.wr 0 rfl _⟩
  refine patinaref09_Read_l2_rule k _ (fun d ya yn yc y2 y4 i m' => (some ⟨b, off, sp⟩ : Option Addr) = ya ∧ 174 = yn ∧ c = yc ∧ (⟨x2, 0, none⟩ : Addr) = y2 ∧ (⟨x4, 0, none⟩ : Addr) = y4 ∧ ∃ j : Nat, i = j ∧ j + d = 24 ∧ ∃ g : Int → Int, (∀ q : Int, 0 ≤ q → q < j → g q = num f (5 * q) 5) ∧
    Own m' ((x4, .live (ckC { zck with fl := g })) :: (b, ob) :: (x2, .live (ckC zck)) :: F)) ?_ k 24 _ _ _ _ _ 0 _ (by omega) ⟨rfl, rfl, rfl, rfl, rfl, 0, rfl, by omega, fun _ => 0, fun q h3 h4 => by omega, h2⟩
  clear h2
  rintro d nx _ _ _ _ _ _ m' ⟨rfl, rfl, rfl, rfl, rfl, j, rfl, hd, g, hg, h2⟩ hnx
  unfold patinaref09_Read_l2_b
  by_cases h1 : j < 24
  · have en := number_is (sp := sp) (c' := c - 5 * j) hs hf k (by omega) (h2.at 1 rfl) (o := 5 * j) (l := 5) (by omega) (by omega)
    have a1 : (5 * (j : Int) + 5).toNat = 5 * j + 5 := by omega
    have a2 : (5 * (j : Int)).toNat = 5 * j := by omega
    have a3 : 5 * j + 5 - 5 * j = 5 := by omega
    obtain ⟨e1, h4⟩ := hx4 h2 (ck_sfl (i := j) (num f ((5 * j : Nat) : Int) 5) h1) (by omega)
    simp (disch := omega) only [Option.bind_some, Option.map_some, cond_true, cond_false, wrap_i64, tmod_pos, tdiv_pos, inRange_yes, inUpto_yes, isZero_no, decide_eq_true, decide_eq_false, Bool.not_true, Bool.not_false, Int.toNat_natCast, Nat.mul_one, beqI_yes, beqI_no, bneI_yes, bneI_no, isNil_nil, isNil_iface, wr_wr, Option.isNone_none, Option.isNone_some, plus, Nat.zero_add, Nat.add_zero, okz, a1, a2, a3, clear_is, Bool.and_self, Option.map_some, en, e1]
    refine hnx (d - 1) _ _ _ _ _ _ _ (by omega) ⟨rfl, rfl, rfl, rfl, rfl, j + 1, by omega, by omega, _, fun q h5 h6 => ?_, h4⟩
    by_cases hq : q = j
    · subst hq; simp
    · simp only
      rw [upd_ne hq]; exact hg q h5 (by omega)
  obtain rfl : j = 24 := by omega
  clear hnx
  have hgb : ∀ q : Int, 0 ≤ q → q < 24 → g q = num f (5 * q) 5 := fun q h3 h4 => hg q h3 (by omega)
  clear hg
  -- the next seq and the bad ones
  have en1 := number_is (sp := sp) (c' := c - 120) hs hf k (by omega) (h2.at 1 rfl) (o := 120) (l := 5) (by omega) (by omega)
  obtain ⟨e1, h4⟩ := hx4 h2 (ck_snx (num f ((120 : Nat) : Int) 5)) (by omega)
  have en2 := number_is (sp := sp) (c' := c - 125) hs hf k (by omega) (h4.at 1 rfl) (o := 125) (l := 2) (by omega) (by omega)
  have t125 : Int.toNat 125 = 125 := rfl
  have t120 : Int.toNat 120 = 120 := rfl
  have s1 : 125 - 120 = 5 := rfl
  have s2 : 127 - 125 = 2 := rfl
  simp (disch := omega) only [Option.bind_some, Option.map_some, cond_true, cond_false, wrap_i64, tmod_pos, tdiv_pos, inRange_yes, inUpto_yes, isZero_no, decide_eq_true, decide_eq_false, Bool.not_true, Bool.not_false, Int.toNat_natCast, Nat.mul_one, beqI_yes, beqI_no, bneI_yes, bneI_no, isNil_nil, isNil_iface, wr_wr, Option.isNone_none, Option.isNone_some, plus, Nat.zero_add, Nat.add_zero, okz, t120, t125, t127, s1, s2, clear_is, Bool.and_self, Option.map_some, en1, e1, en2]
  refine patinaref09_Read_l4_rule k _ (fun d ya yn yc y2 y4 y7 i m' => (some ⟨b, off, sp⟩ : Option Addr) = ya ∧ 174 = yn ∧ c = yc ∧ (⟨x2, 0, none⟩ : Addr) = y2 ∧ (⟨x4, 0, none⟩ : Addr) = y4 ∧ ∃ j : Nat, i = j ∧ j + d = 12 ∧ num f 125 2 / 2 ^ j = y7 ∧ ∃ gb : Int → Bool, (∀ q : Int, 0 ≤ q → q < j → gb q = (num f 125 2 / 2 ^ q.toNat % 2 == 1)) ∧
    Own m' ((x4, .live (ckC { zck with fl := g, nx := num f 120 5, bad := gb })) :: (b, ob) :: (x2, .live (ckC zck)) :: F)) ?_ k 12 _ _ _ _ _ _ 0 _ (by omega) ⟨rfl, rfl, rfl, rfl, rfl, 0, rfl, by omega, by simp, fun _ => false, fun q h3 h4 => by omega, h4⟩
  clear h2 h4 e1 en1 en2
  rintro d nx _ _ _ _ _ _ _ m' ⟨rfl, rfl, rfl, rfl, rfl, j, rfl, hd, rfl, gb, hg, h2⟩ hnx
  unfold patinaref09_Read_l4_b
  by_cases h1 : j < 12
  · obtain ⟨e1, h4⟩ := hx4 h2 (ck_sbad (i := j) (num f 125 2 / 2 ^ j % 2 == 1) h1) (by omega)
    have hq0 : 0 ≤ num f 125 2 / 2 ^ j ∧ num f 125 2 / 2 ^ j < 65536 := by
      have h5 := hnb2.1
      have h6 := hnb2.2
      generalize num f 125 2 = v at h5 h6
      rcases pow2_12 (show j ≤ 12 by omega) with rfl | rfl | rfl | rfl | rfl | rfl | rfl | rfl | rfl | rfl | rfl | rfl | rfl <;> simp only [Int.reducePow] <;> omega
    have hh := half_pow (v := num f 125 2) j
    have htd : Int.tdiv (num f 125 2 / 2 ^ j) 2 = num f 125 2 / 2 ^ (j + 1) := by rw [Int.tdiv_eq_ediv_of_nonneg hq0.1, hh]
    have hb2 : -9223372036854775808 ≤ num f 125 2 / 2 ^ (j + 1) ∧ num f 125 2 / 2 ^ (j + 1) < 9223372036854775808 := by rw [← hh]; omega
    have hw := wrap_i64 hb2.1 hb2.2
    have htm := tmod_pos (y := 2) hq0.1
    rw [htd, htm, hw]
    simp (disch := omega) only [Option.bind_some, Option.map_some, cond_true, cond_false, wrap_i64, tmod_pos, tdiv_pos, inRange_yes, inUpto_yes, isZero_no, decide_eq_true, decide_eq_false, Bool.not_true, Bool.not_false, Int.toNat_natCast, Nat.mul_one, beqI_yes, beqI_no, bneI_yes, bneI_no, isNil_nil, isNil_iface, wr_wr, Option.isNone_none, Option.isNone_some, plus, Nat.zero_add, Nat.add_zero, e1]
    refine hnx (d - 1) _ _ _ _ _ _ _ _ (by omega) ⟨rfl, rfl, rfl, rfl, rfl, j + 1, by omega, by omega, rfl, _, fun q h5 h6 => ?_, h4⟩
    by_cases hq : q = j
    · subst hq; simp
    · simp only
      rw [upd_ne hq]; exact hg q h5 (by omega)
  obtain rfl : j = 12 := by omega
  clear hnx
  have hgbad : ∀ q : Int, 0 ≤ q → q < 12 → gb q = (num f 125 2 / 2 ^ q.toNat % 2 == 1) := fun q h3 h4 => hg q h3 (by omega)
  clear hg
  -- the cursor
  have e127 := hs.ld (sp := sp) (h2.at 1 rfl) (i := 127) (by omega)
  rw [c127] at e127
  have b127 := hf 127
  obtain ⟨e1, h4⟩ := hx4 h2 (ck_scu (f 127)) (by omega)
  simp (disch := omega) only [Option.bind_some, Option.map_some, cond_true, cond_false, wrap_i64, tmod_pos, tdiv_pos, inRange_yes, inUpto_yes, isZero_no, decide_eq_true, decide_eq_false, Bool.not_true, Bool.not_false, Int.toNat_natCast, Nat.mul_one, beqI_yes, beqI_no, bneI_yes, bneI_no, isNil_nil, isNil_iface, wr_wr, Option.isNone_none, Option.isNone_some, plus, Nat.zero_add, Nat.add_zero, t127, e127, e1]
  refine patinaref09_Read_l6_rule k _ (fun d ya yn yc y2 y4 i m' => (some ⟨b, off, sp⟩ : Option Addr) = ya ∧ 174 = yn ∧ c = yc ∧ (⟨x2, 0, none⟩ : Addr) = y2 ∧ (⟨x4, 0, none⟩ : Addr) = y4 ∧ ∃ j : Nat, i = j ∧ j + d = 12 ∧ ∃ gr gs : Int → Int, (∀ q : Int, 0 ≤ q → q < j → gr q = num f (128 + 2 * q) 2 ∧ gs q = f (152 + q)) ∧
    Own m' ((x4, .live (ckC { fl := g, nx := num f 120 5, bad := gb, cu := f 127, rd := gr, sc := gs })) :: (b, ob) :: (x2, .live (ckC zck)) :: F)) ?_ k 12 _ _ _ _ _ 0 _ (by omega) ⟨rfl, rfl, rfl, rfl, rfl, 0, rfl, by omega, fun _ => 0, fun _ => 0, fun q h3 h4 => by omega, h4⟩
  clear h2 h4 e1 e127
  rintro d nx _ _ _ _ _ _ m' ⟨rfl, rfl, rfl, rfl, rfl, j, rfl, hd, gr, gs, hg, h2⟩ hnx
  unfold patinaref09_Read_l6_b
  by_cases h1 : j < 12
  · have en := number_is (sp := sp) (c' := c - (128 + 2 * j)) hs hf k (by omega) (h2.at 1 rfl) (o := 128 + 2 * j) (l := 2) (by omega) (by omega)
    have a1 : (130 + 2 * (j : Int)).toNat = 130 + 2 * j := by omega
    have a2 : (128 + 2 * (j : Int)).toNat = 128 + 2 * j := by omega
    have a3 : 130 + 2 * j - (128 + 2 * j) = 2 := by omega
    have a4 : (152 + (j : Int)).toNat = 152 + j := by omega
    have hb2 := num_bd5 hf (n := 2) (by omega) ((128 + 2 * j : Nat) : Int)
    obtain ⟨e1, h4⟩ := hx4 h2 (ck_srd (i := j) (num f ((128 + 2 * j : Nat) : Int) 2) h1) (by omega)
    have e152 := hs.ld (sp := sp) (h4.at 1 rfl) (i := 152 + j) (by omega)
    have b152 := hf ((152 + j : Nat) : Int)
    obtain ⟨e2, h5⟩ := hx4 h4 (ck_ssc (i := j) (f ((152 + j : Nat) : Int)) h1) (by omega)
    rw [wr_wr] at e2 h5
    simp (disch := omega) only [Option.bind_some, Option.map_some, cond_true, cond_false, wrap_i64, tmod_pos, tdiv_pos, inRange_yes, inUpto_yes, isZero_no, decide_eq_true, decide_eq_false, Bool.not_true, Bool.not_false, Int.toNat_natCast, Nat.mul_one, beqI_yes, beqI_no, bneI_yes, bneI_no, isNil_nil, isNil_iface, wr_wr, Option.isNone_none, Option.isNone_some, plus, Nat.zero_add, Nat.add_zero, okz, a1, a2, a3, a4, clear_is, Bool.and_self, Option.map_some, en, e1, e152, e2]
    refine hnx (d - 1) _ _ _ _ _ _ _ (by omega) ⟨rfl, rfl, rfl, rfl, rfl, j + 1, by omega, by omega, _, _, fun q h6 h7 => ?_, h5⟩
    by_cases hq : q = j
    · subst hq; simp
    · simp only
      rw [upd_ne hq, upd_ne hq]; exact hg q h6 (by omega)
  obtain rfl : j = 12 := by omega
  clear hnx
  have hck : ckC { fl := g, nx := num f 120 5, bad := gb, cu := f 127, rd := gr, sc := gs } = ckC (dec f) :=
    ckC_congr hgb rfl hgbad rfl (fun q h3 h4 => (hg q h3 (by omega)).1) fun q h3 h4 => (hg q h3 (by omega)).2
  rw [hck] at h2
  obtain ⟨z1, z2, z3, z4⟩ := out h2
  simp (disch := omega) only [Option.bind_some, Option.map_some, cond_true, cond_false, wrap_i64, tmod_pos, tdiv_pos, inRange_yes, inUpto_yes, isZero_no, decide_eq_true, decide_eq_false, Bool.not_true, Bool.not_false, Int.toNat_natCast, Nat.mul_one, beqI_yes, beqI_no, bneI_yes, bneI_no, isNil_nil, isNil_iface, wr_wr, Option.isNone_none, Option.isNone_some, plus, Nat.zero_add, Nat.add_zero, z1, hlen, z2, z3]
  exact .some ⟨rfl, rfl, z4⟩
end
end Go.Proofs.Ytnilidpafijdlac
