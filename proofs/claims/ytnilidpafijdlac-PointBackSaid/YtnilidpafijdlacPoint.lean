/- What the checkpoints' functions do: those that read. -/
import Derived.Test.YtnilidpafijdlacCk
import Derived.Test.YtnilidpafijdlacErr
import Derived.Test.YtnilidpafijdlacFpoint
set_option linter.unusedVariables false
set_option linter.unusedSectionVars false
set_option linter.unusedSimpArgs false
namespace Go.Proofs.Ytnilidpafijdlac
open Go.Mx

def Has (o : MObj) (off n : Nat) (f : Int → Int) : Prop := ∃ cs, o.cells = some cs ∧ off + n ≤ cs.length ∧ ∀ i : Nat, i < n → cs[off + i]? = some (.int .u8 (f i))
theorem Has.cells {o : MObj} {off n : Nat} {f : Int → Int} {m : Mem} {b : Nat} (h : Has o off n f) (hm : m[b]? = some o) : ∃ cs, m.cells b = some cs ∧ off + n ≤ cs.length ∧ ∀ i : Nat, i < n → cs[off + i]? = some (.int .u8 (f i)) := by
  obtain ⟨cs, h1, h2⟩ := h
  exact ⟨cs, by simp [Mem.cells, hm, h1], h2⟩
theorem Has.ld {o : MObj} {off n : Nat} {f : Int → Int} {m : Mem} {b : Nat} {sp : Option Nat} (h : Has o off n f) (hm : m[b]? = some o) {i : Nat} (h1 : i < n) : ldInt .u8 m ⟨b, off + i, sp⟩ = some (f i) := by
  obtain ⟨cs, h2, h3, h4⟩ := h.cells hm
  simp [ldInt, h2, cInt, h4 i h1]
theorem Has.rd {o : MObj} {off n : Nat} {f : Int → Int} {m : Mem} {b : Nat} {sp : Option Nat} (h : Has o off n f) (hm : m[b]? = some o) : rdSl m (some ⟨b, off, sp⟩) n 1 = some (arr .u8 n f) := by
  obtain ⟨cs, h2, h3, h4⟩ := h.cells hm
  refine rdSl_ld ?_
  have e : (cs.drop off).take (n * 1) = arr .u8 n f := by
    apply List.ext_getElem?
    intro i
    rw [Nat.mul_one, List.getElem?_take]
    by_cases hi : i < n
    · rw [if_pos hi, List.getElem?_drop, h4 i hi, arr_get hi]
    · rw [if_neg hi, List.getElem?_eq_none (by simp; omega)]
  simp only [ldCells, h2, Option.bind_some, cCells]
  rw [if_pos (by omega), e]
section
variable {ob : MObj} {b off n c : Nat} {sp : Option Nat} {f : Int → Int} (hs : Has ob off n f) (hf : Byt f) (hsp : sp = none ∨ sp = some 1) (hc : n ≤ c)
include hs hf hsp hc

theorem take_loop (k : Nat) (kx : Option Addr → Int → Int → Mem → Option (Int × Mem)) {m : Mem} (hb : m[b]? = some ob) {o l c' : Nat} (hl : l ≤ 5) (ho : o + l ≤ n) (x0 : Option Addr) (x1 : Int) : ∀ (d fuel i : Nat), i + d = l → d < fuel →
    point_reader_take_l0 k kx fuel x0 x1 (num f o i) (some ⟨b, off + o, sp⟩) l c' l i m = kx x0 x1 (num f o l) m
  | 0, fuel + 1, i, h1, h2 => by
    obtain rfl : i = l := by omega
    unfold point_reader_take_l0 point_reader_take_l0_b
    simp (disch := omega) only [Option.bind_some, Option.map_some, cond_true, cond_false, wrap_i64, tmod_pos, tdiv_pos, inRange_yes, inUpto_yes, isZero_no, decide_eq_true, decide_eq_false, Bool.not_true, Bool.not_false, Int.toNat_natCast, Nat.mul_one, beqI_yes, beqI_no, bneI_yes, bneI_no, isNil_nil, isNil_iface, wr_wr, Option.isNone_none, Option.isNone_some, plus, Nat.zero_add, Nat.add_zero]
  | d + 1, fuel + 1, i, h1, h2 => by
    unfold point_reader_take_l0 point_reader_take_l0_b
    have h3 := hf (o + i)
    have h4 := num_bd hf i o
    have e := hs.ld (sp := sp) hb (i := o + i) (by omega)
    rw [← Nat.add_assoc, Int.natCast_add] at e
    simp (disch := omega) only [Option.bind_some, Option.map_some, cond_true, cond_false, wrap_i64, tmod_pos, tdiv_pos, inRange_yes, inUpto_yes, isZero_no, decide_eq_true, decide_eq_false, Bool.not_true, Bool.not_false, Int.toNat_natCast, Nat.mul_one, beqI_yes, beqI_no, bneI_yes, bneI_no, isNil_nil, isNil_iface, wr_wr, Option.isNone_none, Option.isNone_some, plus, Nat.zero_add, Nat.add_zero, e]
    have ih := take_loop k kx hb hl ho x0 x1 d fuel (i + 1) (by omega) (by omega) (c' := c')
    rw [or_step (by omega) h4.1 h4.2 h3.1 h3.2]
    rw [num, show ((i + 1 : Nat) : Int) = (i : Int) + 1 by omega] at ih
    exact ih

theorem take_is (k : Nat) {m : Mem} {r o l : Nat} {F : Heap} (hO : Own m ((r, .live [.slice (some ⟨b, off + o, sp⟩) (n - o) (c - o)]) :: (b, ob) :: F)) {p : Int} (hp : p = l) (hl : l ≤ 5) (ho : o + l ≤ n) (hk : 5 < k) :
    point_reader_take k (some ⟨r, 0, none⟩) p m = some (num f o l, wr m r [.slice (some ⟨b, off + (o + l), sp⟩) (n - (o + l)) (c - (o + l))]) := by
  subst hp
  have hr := hO.at 0 rfl
  unfold point_reader_take
  have e1 := ldSl_of (sp := none) hr (off := 0) rfl
  have e0 : (((Int.toNat (l : Int)) : Nat) : Int) = (l : Int) := by omega
  have key := fun kx => take_loop (c' := c - o) hs hf hsp hc k kx (hO.at 1 rfl) hl ho (some ⟨r, 0, none⟩) l l k 0 (by omega) (by omega)
  simp only [num, Int.natCast_zero] at key
  simp (disch := omega) only [Option.bind_some, Option.map_some, cond_true, cond_false, wrap_i64, tmod_pos, tdiv_pos, inRange_yes, inUpto_yes, isZero_no, decide_eq_true, decide_eq_false, Bool.not_true, Bool.not_false, Int.toNat_natCast, Nat.mul_one, beqI_yes, beqI_no, bneI_yes, bneI_no, isNil_nil, isNil_iface, wr_wr, Option.isNone_none, Option.isNone_some, plus, Nat.zero_add, Nat.add_zero, e1, e0, clear_is, key]
  have e2 := okZ_is (b := b) (off := off + o) hsp
  simp (disch := omega) only [Option.bind_some, Option.map_some, cond_true, cond_false, wrap_i64, tmod_pos, tdiv_pos, inRange_yes, inUpto_yes, isZero_no, decide_eq_true, decide_eq_false, Bool.not_true, Bool.not_false, Int.toNat_natCast, Nat.mul_one, beqI_yes, beqI_no, bneI_yes, bneI_no, isNil_nil, isNil_iface, wr_wr, Option.isNone_none, Option.isNone_some, plus, Nat.zero_add, Nat.add_zero, e2, Bool.true_and, st_wr (sp := none) hr (off := 0) (v := Value.slice (some ⟨b, off + (o + l), sp⟩) (n - (o + l)) (c - (o + l))) (by simp)]
  rw [show n - o - l = n - (o + l) by omega, show c - o - l = c - (o + l) by omega, Nat.add_assoc, st_wr (sp := none) hr (off := 0) (by simp)]
  rfl

theorem take_ok (k : Nat) {m : Mem} {r o l : Nat} {F : Heap} (hO : Own m ((r, .live [.slice (some ⟨b, off + o, sp⟩) (n - o) (c - o)]) :: (b, ob) :: F)) {p : Int} (hp : p = l) (hl : l ≤ 5) (ho : o + l ≤ n) (hk : 5 < k) :
    Ok (point_reader_take k (some ⟨r, 0, none⟩) p m) fun x => x.1 = num f o l ∧ Own x.2 ((r, .live [.slice (some ⟨b, off + (o + l), sp⟩) (n - (o + l)) (c - (o + l))]) :: (b, ob) :: F) := by
  rw [take_is hs hf hsp hc k hO hp hl ho hk]
  exact .some ⟨rfl, hO.wr 0 rfl _⟩
end

theorem rd_short (k : Nat) {a : Option Addr} {n c : Nat} {m : Mem} {F : Heap} (hO : Own m F) (hn : n ≠ 174) :
    Ok (point_Read k a n c m) fun r => r.1 = ckC zck ∧ r.2.1 = errC 3 ∧ Own r.2.2 F := by
  have h1 := (hO.new (.live (ckC zck))).new (.live (ckC zck))
  have hl : Nat.beq (ckC zck).length 62 = true := by rw [ckC_len]; rfl
  unfold point_Read
  simp only [zck_cells]
  have e1 := ldCells_of (n := 62) (sp := none) (h1.at 0 rfl) (off := 0) (by simp)
  rw [List.drop_zero, List.take_of_length_le (by simp)] at e1
  have e2 := stCells_wr (sp := none) (vs := ckC zck) (h1.at 1 rfl) (off := 0) (by simp)
  have h2 := h1.wr 1 rfl (ckC zck)
  rw [List.take_zero, List.nil_append, List.drop_of_length_le (by simp), List.append_nil] at e2
  have e3 := ldCells_of (n := 62) (sp := none) (h2.at 1 rfl) (off := 0) (by simp)
  rw [List.drop_zero, List.take_of_length_le (by simp)] at e3
  simp (disch := omega) only [Option.bind_some, Option.map_some, cond_true, cond_false, wrap_i64, tmod_pos, tdiv_pos, inRange_yes, inUpto_yes, isZero_no, decide_eq_true, decide_eq_false, Bool.not_true, Bool.not_false, Int.toNat_natCast, Nat.mul_one, beqI_yes, beqI_no, bneI_yes, bneI_no, isNil_nil, isNil_iface, wr_wr, Option.isNone_none, Option.isNone_some, plus, Nat.zero_add, Nat.add_zero, e1, hl, e2, e3]
  exact .some ⟨rfl, rfl, h2.tail.tail⟩

section
variable {ob : MObj} {b off c : Nat} {sp : Option Nat} {f : Int → Int} (hs : Has ob off 174 f) (hf : Byt f) (hsp : sp = none ∨ sp = some 1) (hc : 174 ≤ c)
include hs hf hsp hc

/-- the reader at a place -/
def rdr (b off : Nat) (sp : Option Nat) (c o : Nat) : MObj := .live [.slice (some ⟨b, off + o, sp⟩) (174 - o) (c - o)]

theorem Read_ok (k : Nat) (hk : 200 < k) {m : Mem} {F : Heap} (hO : Own m ((b, ob) :: F)) :
    Ok (point_Read k (some ⟨b, off, sp⟩) 174 c m) fun r => r.1 = ckC (bif good f then dec f else zck) ∧ r.2.1 = errC (bif good f then 0 else 3) ∧ Own r.2.2 ((b, ob) :: F) := by
  unfold point_Read
  simp only [zck_cells]
  have h1 := ((hO.new (.live (ckC zck))).new (.live (ckC zck))).new (.live [.slice (some ⟨b, off, sp⟩) 174 c])
  have h2 := h1.pick [0, 3, 1, 2] 4 (by decide)
  simp only [pickL, List.filterMap, List.getElem?_cons_zero, List.getElem?_cons_succ, List.drop_succ_cons, List.drop_zero, List.cons_append, List.nil_append] at h2
  clear h1
  generalize (m ++ [MObj.live (ckC zck)]).length = x4 at h2 ⊢
  generalize (m ++ [MObj.live (ckC zck)] ++ [MObj.live (ckC zck)]).length = x5 at h2 ⊢
  generalize m.length = x2 at h2 ⊢
  simp (disch := omega) only [Option.bind_some, Option.map_some, cond_true, cond_false, wrap_i64, tmod_pos, tdiv_pos, inRange_yes, inUpto_yes, isZero_no, decide_eq_true, decide_eq_false, Bool.not_true, Bool.not_false, Int.toNat_natCast, Nat.mul_one, beqI_yes, beqI_no, bneI_yes, bneI_no, isNil_nil, isNil_iface, wr_wr, Option.isNone_none, Option.isNone_some, plus, Nat.zero_add, Nat.add_zero]
  generalize m ++ [MObj.live (ckC zck)] ++ [MObj.live (ckC zck)] ++ [MObj.live [Value.slice (some ⟨b, off, sp⟩) 174 c]] = m0 at h2 ⊢
  have hnb := num_bd5 hf (n := 2) (by omega) 125
  have hnb2 : num f 125 2 < 65536 := by
    have := num_bd hf 2 125
    simpa using this.2
  -- the floors
  have hx4 : ∀ {m' : Mem} {r : MObj} {σ τ : Ck} {G : Heap} {j : Nat} {v : Value}, Own m' ((x5, r) :: (b, ob) :: (x4, .live (ckC σ)) :: G) → (ckC σ).set j v = ckC τ → j < 62 → st m' ⟨x4, j, none⟩ v = some (wr m' x4 (ckC τ)) ∧ Own (wr m' x4 (ckC τ)) ((x5, r) :: (b, ob) :: (x4, .live (ckC τ)) :: G) := by
    intro m' r σ τ G j v h1 h2 h3
    refine ⟨by rw [st_wr (h1.at 2 rfl) (by simpa using h3), h2], h1.wr 2 rfl _⟩
  refine point_Read_l0_rule k _ (fun d y2 y4 y5 i m' => (⟨x2, 0, none⟩ : Addr) = y2 ∧ (⟨x4, 0, none⟩ : Addr) = y4 ∧ (⟨x5, 0, none⟩ : Addr) = y5 ∧ ∃ j : Nat, i = j ∧ j + d = 24 ∧ ∃ g : Int → Int, (∀ q : Int, 0 ≤ q → q < j → g q = num f (5 * q) 5) ∧
    Own m' ((x5, rdr b off sp c (5 * j)) :: (b, ob) :: (x4, .live (ckC { zck with fl := g })) :: (x2, .live (ckC zck)) :: F)) ?_ k 24 _ _ _ 0 _ (by omega) ⟨rfl, rfl, rfl, 0, rfl, by omega, fun _ => 0, fun q h3 h4 => by omega, h2⟩
  clear h2 m0
  rintro d nx _ _ _ _ m' ⟨rfl, rfl, rfl, j, rfl, hd, g, hg, h2⟩ hnx
  unfold point_Read_l0_b
  by_cases h1 : j < 24
  · simp (disch := omega) only [Option.bind_some, Option.map_some, cond_true, cond_false, wrap_i64, tmod_pos, tdiv_pos, inRange_yes, inUpto_yes, isZero_no, decide_eq_true, decide_eq_false, Bool.not_true, Bool.not_false, Int.toNat_natCast, Nat.mul_one, beqI_yes, beqI_no, bneI_yes, bneI_no, isNil_nil, isNil_iface, wr_wr, Option.isNone_none, Option.isNone_some, plus, Nat.zero_add, Nat.add_zero]
    refine .bind (take_ok hs hf hsp hc k h2 (l := 5) rfl (by omega) (by omega) (by omega)) ?_
    rintro ⟨_, m1⟩ ⟨rfl, h3⟩
    obtain ⟨e1, h4⟩ := hx4 h3 (ck_sfl (i := j) (num f ((5 * j : Nat) : Int) 5) h1) (by omega)
    simp (disch := omega) only [Option.bind_some, Option.map_some, cond_true, cond_false, wrap_i64, tmod_pos, tdiv_pos, inRange_yes, inUpto_yes, isZero_no, decide_eq_true, decide_eq_false, Bool.not_true, Bool.not_false, Int.toNat_natCast, Nat.mul_one, beqI_yes, beqI_no, bneI_yes, bneI_no, isNil_nil, isNil_iface, wr_wr, Option.isNone_none, Option.isNone_some, plus, Nat.zero_add, Nat.add_zero, e1]
    refine hnx (d - 1) _ _ _ _ _ (by omega) ⟨rfl, rfl, rfl, j + 1, by omega, by omega, _, fun q h5 h6 => ?_, h4⟩
    by_cases hq : q = j
    · subst hq; simp
    · simp only
      rw [upd_ne hq]; exact hg q h5 (by omega)
  obtain rfl : j = 24 := by omega
  clear hnx
  -- the next seq and the bad ones
  have h2 : Own m' ((x5, rdr b off sp c 120) :: (b, ob) :: (x4, .live (ckC { zck with fl := g })) :: (x2, .live (ckC zck)) :: F) := h2
  simp (disch := omega) only [Option.bind_some, Option.map_some, cond_true, cond_false, wrap_i64, tmod_pos, tdiv_pos, inRange_yes, inUpto_yes, isZero_no, decide_eq_true, decide_eq_false, Bool.not_true, Bool.not_false, Int.toNat_natCast, Nat.mul_one, beqI_yes, beqI_no, bneI_yes, bneI_no, isNil_nil, isNil_iface, wr_wr, Option.isNone_none, Option.isNone_some, plus, Nat.zero_add, Nat.add_zero]
  refine .bind (take_ok hs hf hsp hc k h2 (l := 5) rfl (by omega) (by omega) (by omega)) ?_
  rintro ⟨_, m1⟩ ⟨rfl, h3⟩
  obtain ⟨e1, h4⟩ := hx4 h3 (ck_snx (num f ((120 : Nat) : Int) 5)) (by omega)
  simp (disch := omega) only [Option.bind_some, Option.map_some, cond_true, cond_false, wrap_i64, tmod_pos, tdiv_pos, inRange_yes, inUpto_yes, isZero_no, decide_eq_true, decide_eq_false, Bool.not_true, Bool.not_false, Int.toNat_natCast, Nat.mul_one, beqI_yes, beqI_no, bneI_yes, bneI_no, isNil_nil, isNil_iface, wr_wr, Option.isNone_none, Option.isNone_some, plus, Nat.zero_add, Nat.add_zero, e1]
  clear e1 h3 h2
  refine .bind (take_ok hs hf hsp hc k h4 (l := 2) rfl (by omega) (by omega) (by omega)) ?_
  rintro ⟨_, m2⟩ ⟨rfl, h2⟩
  simp (disch := omega) only [Option.bind_some, Option.map_some, cond_true, cond_false, wrap_i64, tmod_pos, tdiv_pos, inRange_yes, inUpto_yes, isZero_no, decide_eq_true, decide_eq_false, Bool.not_true, Bool.not_false, Int.toNat_natCast, Nat.mul_one, beqI_yes, beqI_no, bneI_yes, bneI_no, isNil_nil, isNil_iface, wr_wr, Option.isNone_none, Option.isNone_some, plus, Nat.zero_add, Nat.add_zero]
  clear h4
  have hgb : ∀ q : Int, 0 ≤ q → q < 24 → g q = num f (5 * q) 5 := fun q h3 h4 => hg q h3 (by omega)
  clear hg
  refine point_Read_l2_rule k _ (fun d y2 y4 y5 y7 i m' => (⟨x2, 0, none⟩ : Addr) = y2 ∧ (⟨x4, 0, none⟩ : Addr) = y4 ∧ (⟨x5, 0, none⟩ : Addr) = y5 ∧ num f 125 2 = y7 ∧ ∃ j : Nat, i = j ∧ j + d = 12 ∧ ∃ gb : Int → Bool, (∀ q : Int, 0 ≤ q → q < j → gb q = (num f 125 2 / 2 ^ q.toNat % 2 == 1)) ∧
    Own m' ((x5, rdr b off sp c 127) :: (b, ob) :: (x4, .live (ckC { zck with fl := g, nx := num f 120 5, bad := gb })) :: (x2, .live (ckC zck)) :: F)) ?_ k 12 _ _ _ _ 0 _ (by omega) ⟨rfl, rfl, rfl, rfl, 0, rfl, by omega, fun _ => false, fun q h3 h4 => by omega, h2⟩
  clear h2
  rintro d nx _ _ _ _ _ m' ⟨rfl, rfl, rfl, rfl, j, rfl, hd, gb, hg, h2⟩ hnx
  unfold point_Read_l2_b
  by_cases h1 : j < 12
  · obtain ⟨e1, h4⟩ := hx4 h2 (ck_sbad (i := j) (num f 125 2 / 2 ^ j % 2 == 1) h1) (by omega)
    simp (disch := omega) only [Option.bind_some, Option.map_some, cond_true, cond_false, wrap_i64, tmod_pos, tdiv_pos, inRange_yes, inUpto_yes, isZero_no, decide_eq_true, decide_eq_false, Bool.not_true, Bool.not_false, Int.toNat_natCast, Nat.mul_one, beqI_yes, beqI_no, bneI_yes, bneI_no, isNil_nil, isNil_iface, wr_wr, Option.isNone_none, Option.isNone_some, plus, Nat.zero_add, Nat.add_zero, bit_is, e1]
    refine hnx (d - 1) _ _ _ _ _ _ (by omega) ⟨rfl, rfl, rfl, rfl, j + 1, by omega, by omega, _, fun q h5 h6 => ?_, h4⟩
    by_cases hq : q = j
    · subst hq; simp
    · simp only
      rw [upd_ne hq]; exact hg q h5 (by omega)
  obtain rfl : j = 12 := by omega
  clear hnx
  have hgbad : ∀ q : Int, 0 ≤ q → q < 12 → gb q = (num f 125 2 / 2 ^ q.toNat % 2 == 1) := fun q h3 h4 => hg q h3 (by omega)
  clear hg
  -- the cursor
  simp (disch := omega) only [Option.bind_some, Option.map_some, cond_true, cond_false, wrap_i64, tmod_pos, tdiv_pos, inRange_yes, inUpto_yes, isZero_no, decide_eq_true, decide_eq_false, Bool.not_true, Bool.not_false, Int.toNat_natCast, Nat.mul_one, beqI_yes, beqI_no, bneI_yes, bneI_no, isNil_nil, isNil_iface, wr_wr, Option.isNone_none, Option.isNone_some, plus, Nat.zero_add, Nat.add_zero]
  refine .bind (take_ok hs hf hsp hc k h2 (l := 1) rfl (by omega) (by omega) (by omega)) ?_
  rintro ⟨_, m1⟩ ⟨rfl, h3⟩
  obtain ⟨e1, h4⟩ := hx4 h3 (ck_scu (num f ((127 : Nat) : Int) 1)) (by omega)
  simp (disch := omega) only [Option.bind_some, Option.map_some, cond_true, cond_false, wrap_i64, tmod_pos, tdiv_pos, inRange_yes, inUpto_yes, isZero_no, decide_eq_true, decide_eq_false, Bool.not_true, Bool.not_false, Int.toNat_natCast, Nat.mul_one, beqI_yes, beqI_no, bneI_yes, bneI_no, isNil_nil, isNil_iface, wr_wr, Option.isNone_none, Option.isNone_some, plus, Nat.zero_add, Nat.add_zero, e1]
  clear e1 h3 h2
  refine point_Read_l4_rule k _ (fun d y2 y4 y5 y7 i m' => (⟨x2, 0, none⟩ : Addr) = y2 ∧ (⟨x4, 0, none⟩ : Addr) = y4 ∧ (⟨x5, 0, none⟩ : Addr) = y5 ∧ num f 125 2 = y7 ∧ ∃ j : Nat, i = j ∧ j + d = 12 ∧ ∃ gr : Int → Int, (∀ q : Int, 0 ≤ q → q < j → gr q = num f (128 + 2 * q) 2) ∧
    Own m' ((x5, rdr b off sp c (128 + 2 * j)) :: (b, ob) :: (x4, .live (ckC { zck with fl := g, nx := num f 120 5, bad := gb, cu := num f 127 1, rd := gr })) :: (x2, .live (ckC zck)) :: F)) ?_ k 12 _ _ _ _ 0 _ (by omega) ⟨rfl, rfl, rfl, rfl, 0, rfl, by omega, fun _ => 0, fun q h3 h4 => by omega, h4⟩
  clear h4
  rintro d nx _ _ _ _ _ m' ⟨rfl, rfl, rfl, rfl, j, rfl, hd, gr, hg, h2⟩ hnx
  unfold point_Read_l4_b
  by_cases h1 : j < 12
  · simp (disch := omega) only [Option.bind_some, Option.map_some, cond_true, cond_false, wrap_i64, tmod_pos, tdiv_pos, inRange_yes, inUpto_yes, isZero_no, decide_eq_true, decide_eq_false, Bool.not_true, Bool.not_false, Int.toNat_natCast, Nat.mul_one, beqI_yes, beqI_no, bneI_yes, bneI_no, isNil_nil, isNil_iface, wr_wr, Option.isNone_none, Option.isNone_some, plus, Nat.zero_add, Nat.add_zero]
    refine .bind (take_ok hs hf hsp hc k h2 (l := 2) rfl (by omega) (by omega) (by omega)) ?_
    rintro ⟨_, m1⟩ ⟨rfl, h3⟩
    obtain ⟨e1, h4⟩ := hx4 h3 (ck_srd (i := j) (num f ((128 + 2 * j : Nat) : Int) 2) h1) (by omega)
    simp (disch := omega) only [Option.bind_some, Option.map_some, cond_true, cond_false, wrap_i64, tmod_pos, tdiv_pos, inRange_yes, inUpto_yes, isZero_no, decide_eq_true, decide_eq_false, Bool.not_true, Bool.not_false, Int.toNat_natCast, Nat.mul_one, beqI_yes, beqI_no, bneI_yes, bneI_no, isNil_nil, isNil_iface, wr_wr, Option.isNone_none, Option.isNone_some, plus, Nat.zero_add, Nat.add_zero, e1]
    refine hnx (d - 1) _ _ _ _ _ _ (by omega) ⟨rfl, rfl, rfl, rfl, j + 1, by omega, by omega, _, fun q h5 h6 => ?_, h4⟩
    by_cases hq : q = j
    · subst hq; simp
    · simp only
      rw [upd_ne hq]; exact hg q h5 (by omega)
  obtain rfl : j = 12 := by omega
  clear hnx
  have hgrd : ∀ q : Int, 0 ≤ q → q < 12 → gr q = num f (128 + 2 * q) 2 := fun q h3 h4 => hg q h3 (by omega)
  clear hg
  -- the scores
  simp (disch := omega) only [Option.bind_some, Option.map_some, cond_true, cond_false, wrap_i64, tmod_pos, tdiv_pos, inRange_yes, inUpto_yes, isZero_no, decide_eq_true, decide_eq_false, Bool.not_true, Bool.not_false, Int.toNat_natCast, Nat.mul_one, beqI_yes, beqI_no, bneI_yes, bneI_no, isNil_nil, isNil_iface, wr_wr, Option.isNone_none, Option.isNone_some, plus, Nat.zero_add, Nat.add_zero]
  refine point_Read_l6_rule k _ (fun d y2 y4 y5 y7 i m' => (⟨x2, 0, none⟩ : Addr) = y2 ∧ (⟨x4, 0, none⟩ : Addr) = y4 ∧ (⟨x5, 0, none⟩ : Addr) = y5 ∧ num f 125 2 = y7 ∧ ∃ j : Nat, i = j ∧ j + d = 12 ∧ ∃ gs : Int → Int, (∀ q : Int, 0 ≤ q → q < j → gs q = num f (152 + q) 1) ∧
    Own m' ((x5, rdr b off sp c (152 + j)) :: (b, ob) :: (x4, .live (ckC { fl := g, nx := num f 120 5, bad := gb, cu := num f 127 1, rd := gr, sc := gs })) :: (x2, .live (ckC zck)) :: F)) ?_ k 12 _ _ _ _ 0 _ (by omega) ⟨rfl, rfl, rfl, rfl, 0, rfl, by omega, fun _ => 0, fun q h3 h4 => by omega, h2⟩
  clear h2
  rintro d nx _ _ _ _ _ m' ⟨rfl, rfl, rfl, rfl, j, rfl, hd, gs, hg, h2⟩ hnx
  unfold point_Read_l6_b
  by_cases h1 : j < 12
  · simp (disch := omega) only [Option.bind_some, Option.map_some, cond_true, cond_false, wrap_i64, tmod_pos, tdiv_pos, inRange_yes, inUpto_yes, isZero_no, decide_eq_true, decide_eq_false, Bool.not_true, Bool.not_false, Int.toNat_natCast, Nat.mul_one, beqI_yes, beqI_no, bneI_yes, bneI_no, isNil_nil, isNil_iface, wr_wr, Option.isNone_none, Option.isNone_some, plus, Nat.zero_add, Nat.add_zero]
    refine .bind (take_ok hs hf hsp hc k h2 (l := 1) rfl (by omega) (by omega) (by omega)) ?_
    rintro ⟨_, m1⟩ ⟨rfl, h3⟩
    obtain ⟨e1, h4⟩ := hx4 h3 (ck_ssc (i := j) (num f ((152 + j : Nat) : Int) 1) h1) (by omega)
    simp (disch := omega) only [Option.bind_some, Option.map_some, cond_true, cond_false, wrap_i64, tmod_pos, tdiv_pos, inRange_yes, inUpto_yes, isZero_no, decide_eq_true, decide_eq_false, Bool.not_true, Bool.not_false, Int.toNat_natCast, Nat.mul_one, beqI_yes, beqI_no, bneI_yes, bneI_no, isNil_nil, isNil_iface, wr_wr, Option.isNone_none, Option.isNone_some, plus, Nat.zero_add, Nat.add_zero, e1]
    refine hnx (d - 1) _ _ _ _ _ _ (by omega) ⟨rfl, rfl, rfl, rfl, j + 1, by omega, by omega, _, fun q h5 h6 => ?_, h4⟩
    by_cases hq : q = j
    · subst hq; simp
    · simp only
      rw [upd_ne hq]; exact hg q h5 (by omega)
  obtain rfl : j = 12 := by omega
  clear hnx
  have hck : ckC { fl := g, nx := num f 120 5, bad := gb, cu := num f 127 1, rd := gr, sc := gs } = ckC (dec f) := by
    refine ckC_congr hgb rfl hgbad (num_one f 127) hgrd fun q h3 h4 => ?_
    simp only [dec]; rw [hg q h3 (by omega), num_one]
  rw [hck] at h2
  clear hck hg hgb hgbad hgrd hx4
  -- the tail
  have tail : ∀ (kx : Addr → Addr → Bool → Mem → Option ((List Value) × Value × Mem)) (x : Bool),
      Ok (kx ⟨x2, 0, none⟩ ⟨x4, 0, none⟩ (x && decide (∀ j : Nat, j < 10 → f (164 + j) = 0)) m') (fun r => r.1 = ckC (bif good f then dec f else zck) ∧ r.2.1 = errC (bif good f then 0 else 3) ∧ Own r.2.2 ((b, ob) :: F)) →
      Ok (point_Read_l8 k kx k ⟨x2, 0, none⟩ ⟨x4, 0, none⟩ x (some ⟨b, off + 164, sp⟩) 10 (c - 164) 10 0 m') (fun r => r.1 = ckC (bif good f then dec f else zck) ∧ r.2.1 = errC (bif good f then 0 else 3) ∧ Own r.2.2 ((b, ob) :: F)) := by
    intro kx x hx
    refine point_Read_l8_rule k _ (fun d y2 y4 y ya yn yc yl i m'' => (⟨x2, 0, none⟩ : Addr) = y2 ∧ (⟨x4, 0, none⟩ : Addr) = y4 ∧ (some ⟨b, off + 164, sp⟩ : Option Addr) = ya ∧ 10 = yn ∧ c - 164 = yc ∧ 10 = yl ∧ m' = m'' ∧ ∃ j : Nat, i = j ∧ j + d = 10 ∧ y = (x && decide (∀ q : Nat, q < j → f (164 + q) = 0))) ?_ k 10 _ _ _ _ _ _ _ 0 _ (by omega) ⟨rfl, rfl, rfl, rfl, rfl, rfl, rfl, 0, rfl, by omega, by simp⟩
    rintro d nx _ _ _ _ _ _ _ _ _ ⟨rfl, rfl, rfl, rfl, rfl, rfl, rfl, j, rfl, hd, rfl⟩ hnx
    unfold point_Read_l8_b
    by_cases h1 : j < 10
    · have e := hs.ld (sp := sp) (h2.at 1 rfl) (i := 164 + j) (by omega)
      rw [← Nat.add_assoc] at e
      have hstep : ∀ y, y = (x && decide (∀ q : Nat, q < j + 1 → f (164 + q) = 0)) → Ok (nx ⟨x2, 0, none⟩ ⟨x4, 0, none⟩ y (some ⟨b, off + 164, sp⟩) 10 (c - 164) 10 (j + 1) m') (fun r => r.1 = ckC (bif good f then dec f else zck) ∧ r.2.1 = errC (bif good f then 0 else 3) ∧ Own r.2.2 ((b, ob) :: F)) :=
        fun y hy => hnx (d - 1) _ _ _ _ _ _ _ _ _ (by omega) ⟨rfl, rfl, rfl, rfl, rfl, rfl, rfl, j + 1, by omega, by omega, hy⟩
      simp (disch := omega) only [Option.bind_some, Option.map_some, cond_true, cond_false, wrap_i64, tmod_pos, tdiv_pos, inRange_yes, inUpto_yes, isZero_no, decide_eq_true, decide_eq_false, Bool.not_true, Bool.not_false, Int.toNat_natCast, Nat.mul_one, beqI_yes, beqI_no, bneI_yes, bneI_no, isNil_nil, isNil_iface, wr_wr, Option.isNone_none, Option.isNone_some, plus, Nat.zero_add, Nat.add_zero, e, point_Read_j1]
      cases hb : (x && decide (∀ q : Nat, q < j → f (164 + q) = 0)) with
      | true =>
        simp only [Bool.and_eq_true, decide_eq_true_eq] at hb
        simp only [cond_true]
        refine hstep _ ?_
        rw [hb.1, Bool.true_and, Bool.eq_iff_iff]
        simp only [beq_iff_eq, decide_eq_true_eq]
        constructor
        · intro h3 q hq
          by_cases hqj : q = j
          · subst hqj; rw [← h3]; congr 1
          · exact hb.2 q (by omega)
        · intro h3
          have := h3 j (by omega)
          rw [← this]; congr 1
      | false =>
        simp only [cond_false]
        refine hstep _ ?_
        symm
        rw [Bool.and_eq_false_iff] at hb ⊢
        refine hb.imp id fun h3 => ?_
        simp only [decide_eq_false_iff_not] at h3 ⊢
        exact fun h4 => h3 fun q hq => h4 q (by omega)
    · obtain rfl : j = 10 := by omega
      simp (disch := omega) only [Option.bind_some, Option.map_some, cond_true, cond_false, wrap_i64, tmod_pos, tdiv_pos, inRange_yes, inUpto_yes, isZero_no, decide_eq_true, decide_eq_false, Bool.not_true, Bool.not_false, Int.toNat_natCast, Nat.mul_one, beqI_yes, beqI_no, bneI_yes, bneI_no, isNil_nil, isNil_iface, wr_wr, Option.isNone_none, Option.isNone_some, plus, Nat.zero_add, Nat.add_zero]
      exact hx
  have hsl := ldSl_of (sp := none) (h2.at 0 rfl) (off := 0) rfl
  have hcu := ldInt_of (sp := none) (h2.at 2 rfl) (off := 37) ck_cu
  have hl : Nat.beq (ckC (dec f)).length 62 = true := by rw [ckC_len]; rfl
  have e4 := ldCells_of (n := 62) (sp := none) (h2.at 2 rfl) (off := 0) (by simp)
  rw [List.drop_zero, List.take_of_length_le (by simp)] at e4
  have st2 : ∀ τ : Ck, stCells m' ⟨x2, 0, none⟩ (ckC τ) = some (wr m' x2 (ckC τ)) := by
    intro τ
    have e2 := stCells_wr (sp := none) (vs := ckC τ) (h2.at 3 rfl) (off := 0) (by simp)
    rwa [List.take_zero, List.nil_append, List.drop_of_length_le (by simp), List.append_nil] at e2
  have ld2 : ∀ τ : Ck, ldCells (wr m' x2 (ckC τ)) ⟨x2, 0, none⟩ 62 = some (ckC τ) ∧ Own (wr m' x2 (ckC τ)) ((b, ob) :: F) := by
    intro τ
    have h3 := h2.wr 3 rfl (ckC τ)
    have e3 := ldCells_of (n := 62) (sp := none) (h3.at 3 rfl) (off := 0) (by simp)
    rw [List.drop_zero, List.take_of_length_le (by simp)] at e3
    exact ⟨e3, by simpa [pickL] using h3.pick [1] 4 (by decide)⟩
  have h126 := hf 126
  have h125 := hf 125
  have h12 : shrI .i64 (num f 125 2) 12 = num f 125 2 / 4096 := shr_bit (i := 12) (by omega)
  have e2n := num_two f 125
  have e126 : (125 + 1 : Int) = 126 := rfl
  rw [e126] at e2n
  simp (disch := omega) only [Option.bind_some, Option.map_some, cond_true, cond_false, wrap_i64, tmod_pos, tdiv_pos, inRange_yes, inUpto_yes, isZero_no, decide_eq_true, decide_eq_false, Bool.not_true, Bool.not_false, Int.toNat_natCast, Nat.mul_one, beqI_yes, beqI_no, bneI_yes, bneI_no, isNil_nil, isNil_iface, wr_wr, Option.isNone_none, Option.isNone_some, plus, Nat.zero_add, Nat.add_zero]
  by_cases hg1 : f 126 ≤ 15
  · simp (disch := omega) only [Option.bind_some, Option.map_some, cond_true, cond_false, wrap_i64, tmod_pos, tdiv_pos, inRange_yes, inUpto_yes, isZero_no, decide_eq_true, decide_eq_false, Bool.not_true, Bool.not_false, Int.toNat_natCast, Nat.mul_one, beqI_yes, beqI_no, bneI_yes, bneI_no, isNil_nil, isNil_iface, wr_wr, Option.isNone_none, Option.isNone_some, plus, Nat.zero_add, Nat.add_zero, h12, hcu, hsl]
    refine tail _ _ ?_
    have hgd : (decide ((dec f).cu < 96) && decide (∀ j : Nat, j < 10 → f (164 + j) = 0)) = good f := by
      unfold good
      rw [decide_eq_true hg1, Bool.true_and, show (decide ((dec f).cu < 96)) = decide (f 127 ≤ 95) by
        rw [Bool.eq_iff_iff]
        simp only [decide_eq_true_eq]
        show f 127 < 96 ↔ f 127 ≤ 95
        omega]
    rw [hgd]
    cases hG : good f with
    | true =>
      obtain ⟨e5, h5⟩ := ld2 (dec f)
      simp (disch := omega) only [Option.bind_some, Option.map_some, cond_true, cond_false, wrap_i64, tmod_pos, tdiv_pos, inRange_yes, inUpto_yes, isZero_no, decide_eq_true, decide_eq_false, Bool.not_true, Bool.not_false, Int.toNat_natCast, Nat.mul_one, beqI_yes, beqI_no, bneI_yes, bneI_no, isNil_nil, isNil_iface, wr_wr, Option.isNone_none, Option.isNone_some, plus, Nat.zero_add, Nat.add_zero, e4, hl, st2, e5]
      exact .some ⟨rfl, rfl, h5⟩
    | false =>
      obtain ⟨e5, h5⟩ := ld2 zck
      simp (disch := omega) only [Option.bind_some, Option.map_some, cond_true, cond_false, wrap_i64, tmod_pos, tdiv_pos, inRange_yes, inUpto_yes, isZero_no, decide_eq_true, decide_eq_false, Bool.not_true, Bool.not_false, Int.toNat_natCast, Nat.mul_one, beqI_yes, beqI_no, bneI_yes, bneI_no, isNil_nil, isNil_iface, wr_wr, Option.isNone_none, Option.isNone_some, plus, Nat.zero_add, Nat.add_zero, st2, e5]
      exact .some ⟨rfl, rfl, h5⟩
  · simp (disch := omega) only [Option.bind_some, Option.map_some, cond_true, cond_false, wrap_i64, tmod_pos, tdiv_pos, inRange_yes, inUpto_yes, isZero_no, decide_eq_true, decide_eq_false, Bool.not_true, Bool.not_false, Int.toNat_natCast, Nat.mul_one, beqI_yes, beqI_no, bneI_yes, bneI_no, isNil_nil, isNil_iface, wr_wr, Option.isNone_none, Option.isNone_some, plus, Nat.zero_add, Nat.add_zero, h12, hsl]
    refine tail _ _ ?_
    have hgd : good f = false := by
      unfold good
      rw [decide_eq_false hg1]; rfl
    rw [hgd]
    obtain ⟨e5, h5⟩ := ld2 zck
    simp (disch := omega) only [Option.bind_some, Option.map_some, cond_true, cond_false, wrap_i64, tmod_pos, tdiv_pos, inRange_yes, inUpto_yes, isZero_no, decide_eq_true, decide_eq_false, Bool.not_true, Bool.not_false, Int.toNat_natCast, Nat.mul_one, beqI_yes, beqI_no, bneI_yes, bneI_no, isNil_nil, isNil_iface, wr_wr, Option.isNone_none, Option.isNone_some, plus, Nat.zero_add, Nat.add_zero, st2, e5, Bool.false_and]
    exact .some ⟨rfl, rfl, h5⟩
end
end Go.Proofs.Ytnilidpafijdlac
