/- What a chip's functions do: a new one, a page that is read; the laws' helpers. -/
import Derived.Test.YtlbbcgjfkpnilaaNandH
import Derived.Test.YtlbbcgjfkpnilaaFpatinalaw05
set_option linter.unusedVariables false
set_option linter.unusedSectionVars false
set_option linter.unusedSimpArgs false
namespace Go.Proofs.Ytlbbcgjfkpnilaa
open Go.Mx

def zblock : BlockS := ⟨fun _ => zeroCh, 0, false, 0, false⟩
def fblock : BlockS := ⟨fun _ => blank, 0, false, 0, false⟩
def zchip : ChipS := ⟨fun _ => zblock, false, false, 0, 0⟩
def fresh : ChipS := ⟨fun _ => fblock, false, false, 0, 0⟩
theorem chunk_zero : ((repl 64 [Value.int .u8 0]) ++ (repl 64 [Value.int .u8 0]) ++ [Value.bool false] ++ [Value.int .i64 0]) = chunkC zeroCh := by
  rw [repl_int]; simp [chunkC, zeroCh]
theorem block_zero : ((repl 8 (repl 4 (chunkC zeroCh))) ++ ([] ++ [] ++ [Value.int .i64 0]) ++ [Value.bool false] ++ [Value.int .i64 0] ++ [Value.bool false]) = blockC zblock := by
  rw [repl_repl, repl_farr]
  unfold blockC zblock
  simp only [List.append_assoc, List.nil_append, List.cons_append]
theorem chip_zero : ((repl 12 (blockC zblock)) ++ [Value.bool false] ++ [Value.bool false] ++ [Value.int .i64 0] ++ [Value.int .i64 0]) = chipC zchip := by
  rw [repl_farr]
  unfold chipC zchip
  simp only [List.append_assoc, List.nil_append, List.cons_append]
theorem tt_chip : ∃ d s b q, tt ty_nand_Chip = ⟨d, s, b, ((repl 12 ((repl 8 (repl 4 ((repl 64 [.int .u8 0]) ++ (repl 64 [.int .u8 0]) ++ [.bool false] ++ [.int .i64 0]))) ++ ([] ++ [] ++ [.int .i64 0]) ++ [.bool false] ++ [.int .i64 0] ++ [.bool false])) ++ [.bool false] ++ [.bool false] ++ [.int .i64 0] ++ [.int .i64 0]), q⟩ :=
  ⟨_, _, _, _, rfl⟩
theorem zero_chip : (tt ty_nand_Chip).zero = chipC zchip := by
  obtain ⟨d, s, b, q, h⟩ := tt_chip
  rw [h]
  simp only
  rw [chunk_zero, block_zero, chip_zero]

theorem chipNew_ok (k : Nat) (hk : 100 < k) {m : Mem} {F : Heap} (hO : Mx.Own m F) : Ok (nand_New k m) fun r => ∃ c, r.1 = some ⟨c, 0, none⟩ ∧ Mx.Own r.2 ((c, .live (chipC fresh)) :: F) := by
  unfold nand_New
  have hl : Nat.beq (chipC zchip).length 49972 = true := by rw [chipC_len]; rfl
  have h1 := hO.new (.live (chipC zchip))
  rw [zero_chip]
  simp (disch := omega) only [Option.bind_some, Option.map_some, cond_true, cond_false, wrap_i64, tmod_pos, tdiv_pos, inRange_yes, inUpto_yes, isZero_no, decide_eq_true, decide_eq_false, Bool.not_true, Bool.not_false, Int.toNat_natCast, Nat.mul_one, beqI_yes, beqI_no, bneI_yes, bneI_no, isNil_nil, isNil_iface, wr_wr, Option.isNone_none, Option.isNone_some, plus, Nat.zero_add, Nat.add_zero, hl]
  generalize m ++ [MObj.live (chipC zchip)] = m1 at h1 ⊢
  generalize m.length = c at h1 ⊢
  refine nand_New_l0_rule k _ (fun d x1 x5 m' => (⟨c, 0, none⟩ : Addr) = x1 ∧ 0 ≤ x5 ∧ x5 + d = 12 ∧ ∃ f : Int → BlockS, (∀ y, y < x5 → f y = fblock) ∧ (∀ y, x5 ≤ y → f y = zblock) ∧ Mx.Own m' ((c, .live (chipC { zchip with b := f })) :: F)) ?_ k 12 _ 0 _ (by omega)
    ⟨rfl, by omega, by omega, fun y => if y < 0 then fblock else zblock, fun y hy => if_pos hy, fun y hy => if_neg (by omega), by
      rw [← chipC_congr (σ := zchip) fun x h2 h3 => by simp only [if_neg (show ¬ x < 0 by omega)]; rfl]; exact h1⟩
  rintro d nx _ i m' ⟨rfl, hi, hd, f, hf, hg, h2⟩ hnx
  unfold nand_New_l0_b
  by_cases h3 : i < 12
  · obtain ⟨g, e⟩ := nand_clear_ok k hk (h2.at 0 rfl) hi h3
    simp (disch := omega) only [Option.bind_some, Option.map_some, cond_true, cond_false, wrap_i64, tmod_pos, tdiv_pos, inRange_yes, inUpto_yes, isZero_no, decide_eq_true, decide_eq_false, Bool.not_true, Bool.not_false, Int.toNat_natCast, Nat.mul_one, beqI_yes, beqI_no, bneI_yes, bneI_no, isNil_nil, isNil_iface, wr_wr, Option.isNone_none, Option.isNone_some, plus, Nat.zero_add, Nat.add_zero, e]
    refine hnx (d - 1) _ _ _ (by omega) ⟨rfl, by omega, by omega, upd f i fblock, fun y hy => ?_, fun y hy => ?_, ?_⟩
    · unfold upd; split
      · rfl
      · exact hf y (by omega)
    · rw [upd_ne (by omega)]; exact hg y (by omega)
    · have := (h2.wr 0 rfl (chipC (({ zchip with b := f } : ChipS).updB i (f i).clear))).grow [g]
      rw [hg i (by omega)] at this
      have e2 : chipC (({ zchip with b := f } : ChipS).updB i ((({ zchip with b := f } : ChipS).b i)).clear) = chipC (({ zchip with b := f } : ChipS).updB i zblock.clear) := by simp only [hg i (Int.le_refl _)]
      rw [e2]
      exact this
  · simp (disch := omega) only [Option.bind_some, Option.map_some, cond_true, cond_false, wrap_i64, tmod_pos, tdiv_pos, inRange_yes, inUpto_yes, isZero_no, decide_eq_true, decide_eq_false, Bool.not_true, Bool.not_false, Int.toNat_natCast, Nat.mul_one, beqI_yes, beqI_no, bneI_yes, bneI_no, isNil_nil, isNil_iface, wr_wr, Option.isNone_none, Option.isNone_some, plus, Nat.zero_add, Nat.add_zero]
    refine .some ⟨c, rfl, ?_⟩
    rw [chipC_congr (σ := fresh) (f := f) fun x h4 h5 => by rw [hf x (by omega)]; rfl]
    exact h2

def ChipS.page (σ : ChipS) (p : Int) : Int → Int := fun i => (σ.at_ p (i / 64)).now (i % 64)
def ChipS.readd (σ : ChipS) (p : Int) : ChipS := σ.updB (p / 8) { σ.b (p / 8) with reads := (σ.b (p / 8)).reads + 1 }
theorem readd_at (σ : ChipS) (p q k : Int) : (σ.readd p).at_ q k = σ.at_ q k := by
  unfold ChipS.readd ChipS.at_ ChipS.updB upd
  simp only
  split
  · rename_i h; rw [h]
  · rfl
theorem chipRead_off (k : Nat) {m : Mem} {c : Nat} {σ : ChipS} (h : m[c]? = some (.live (chipC σ))) {p : Int} (h0 : 0 ≤ p) (h1 : p < 96) (ho : σ.off = true) : nand_Chip_Read k (some ⟨c, 0, none⟩) p m = some (⟨none, 0, 0⟩, errC 7, m) := by
  unfold nand_Chip_Read
  rw [nand_at_is, if_pos ⟨h0, h1, by omega, by omega⟩]
  simp (disch := omega) only [Option.bind_some, Option.map_some, cond_true, cond_false, wrap_i64, tmod_pos, tdiv_pos, inRange_yes, inUpto_yes, isZero_no, decide_eq_true, decide_eq_false, Bool.not_true, Bool.not_false, Int.toNat_natCast, Nat.mul_one, beqI_yes, beqI_no, bneI_yes, bneI_no, isNil_nil, isNil_iface, wr_wr, Option.isNone_none, Option.isNone_some, plus, Nat.zero_add, Nat.add_zero, chip_ldOff h, ho]
  rfl
theorem chipRead_ok (k : Nat) (hk : 100 < k) {m : Mem} {c : Nat} {σ : ChipS} {F : Heap} (hO : Mx.Own m ((c, .live (chipC σ)) :: F)) {p : Int} (h0 : 0 ≤ p) (h1 : p < 96) (ho : σ.off = false) (hr : 0 ≤ (σ.b (p / 8)).reads ∧ (σ.b (p / 8)).reads < 4611686018427387904) :
    Ok (nand_Chip_Read k (some ⟨c, 0, none⟩) p m) fun r => ∃ d, r.1 = ⟨some ⟨d, 0, none⟩, 256, 256⟩ ∧ r.2.1 = .nilIface ∧ Mx.Own r.2.2 ((d, .live (arr .u8 256 (σ.page p))) :: (c, .live (chipC (σ.readd p))) :: F) := by
  have h := hO.at 0 rfl
  unfold nand_Chip_Read
  rw [nand_at_is, if_pos ⟨h0, h1, by omega, by omega⟩]
  have e1 := chip_ldReads h (x := p / 8) (by omega) (by omega)
  have e2 := chip_stReads h (x := p / 8) (by omega) (by omega) ((σ.b (p / 8)).reads + 1)
  have t256 : Int.toNat 256 = 256 := rfl
  have t0 : Int.toNat 0 = 0 := rfl
  have hO1 := hO.wr 0 rfl (chipC (σ.readd p))
  have hO2 := hO1.new (.live (arr .u8 256 fun _ => 0))
  rw [wr_len] at hO2
  simp (disch := omega) only [Option.bind_some, Option.map_some, cond_true, cond_false, wrap_i64, tmod_pos, tdiv_pos, inRange_yes, inUpto_yes, isZero_no, decide_eq_true, decide_eq_false, Bool.not_true, Bool.not_false, Int.toNat_natCast, Nat.mul_one, beqI_yes, beqI_no, bneI_yes, bneI_no, isNil_nil, isNil_iface, wr_wr, Option.isNone_none, Option.isNone_some, plus, Nat.zero_add, Nat.add_zero, chip_ldOff h, ho, sync_atomic_Int64_Add, sync_atomic_AddInt64, atAdd, e1, e2, repl_int, t256, t0, wr_len]
  change Ok (nand_Chip_Read_l0 _ _ _ _ _ _ _ _ _ (wr m c (chipC (σ.readd p)) ++ _)) _
  generalize wr m c (chipC (σ.readd p)) ++ [MObj.live (arr .u8 256 fun _ => 0)] = m1 at hO2 ⊢
  generalize m.length = d0 at hO2 ⊢
  refine nand_Chip_Read_l0_rule k _ (fun d x1 x8 x9a x9n x9c x36 m' => p = x1 ∧ (⟨c, (p / 8).toNat * 4164, none⟩ : Addr) = x8 ∧ (some ⟨d0, 0, none⟩ : Option Addr) = x9a ∧ 256 = x9c ∧ ∃ j : Nat, x36 = j ∧ j + d = 4 ∧ 64 * j = x9n ∧
    Mx.Own m' ((d0, .live (arr .u8 256 fun i => if i < ((64 * j : Nat) : Int) then σ.page p i else 0)) :: (c, .live (chipC (σ.readd p))) :: F)) ?_ k 4 _ _ _ _ _ 0 _ (by omega)
    ⟨rfl, rfl, rfl, rfl, 0, rfl, by omega, rfl, by
      rw [arr_congr (f := fun i => if i < ((64 * 0 : Nat) : Int) then σ.page p i else 0) (g := fun _ => 0) fun i h3 h4 => if_neg (by omega)]; exact hO2⟩
  rintro d nx _ _ _ _ _ _ m' ⟨rfl, rfl, rfl, rfl, j, rfl, hd, rfl, hO3⟩ hnx
  unfold nand_Chip_Read_l0_b
  by_cases h3 : j < 4
  · have e3 := rdSl_ld (n := 64) (z := 1) (chip_cellsNow (hO3.at 1 rfl) (p := p) (k := (j : Int)) ⟨h0, h1, by omega, by omega⟩)
    rw [readd_at] at e3
    have e4 := stCells_wr (sp := none) (vs := arr .u8 64 (σ.at_ p j).now) (hO3.at 0 rfl) (off := 64 * j) (by simp; omega)
    rw [arr_length, arr_put (n := 256) (o := 64 * j) (l := 64) (by omega)] at e4
    have e5 : ∀ a : Addr, sliceK.clear (some ⟨c, a.off, none⟩) true = some ⟨c, a.off, none⟩ := fun _ => rfl
    have e6 : sliceK.clear (some ⟨c, (p / 8).toNat * 4164 + (p % 8).toNat * 520 + j * 130, none⟩) true = some ⟨c, chA p j, none⟩ := by
      unfold chA; rw [Int.toNat_natCast]; rfl
    simp (disch := omega) only [Option.bind_some, Option.map_some, cond_true, cond_false, wrap_i64, tmod_pos, tdiv_pos, inRange_yes, inUpto_yes, isZero_no, decide_eq_true, decide_eq_false, Bool.not_true, Bool.not_false, Int.toNat_natCast, Nat.mul_one, beqI_yes, beqI_no, bneI_yes, bneI_no, isNil_nil, isNil_iface, wr_wr, Option.isNone_none, Option.isNone_some, plus, Nat.zero_add, Nat.add_zero, e6, e3, appM_room, e4]
    refine hnx (d - 1) _ _ _ _ _ _ _ (by omega) ⟨rfl, rfl, rfl, rfl, j + 1, by omega, by omega, by omega, ?_⟩
    have := hO3.wr 0 rfl (arr .u8 256 fun i => if ((64 * j : Nat) : Int) ≤ i ∧ i < ((64 * j : Nat) : Int) + ((64 : Nat) : Int) then (σ.at_ p j).now (i - ((64 * j : Nat) : Int)) else (fun i => if i < ((64 * j : Nat) : Int) then σ.page p i else 0) i)
    have ec := arr_congr (k := .u8) (n := 256) (f := fun i => if i < ((64 * (j + 1) : Nat) : Int) then σ.page p i else 0) (g := fun i => if ((64 * j : Nat) : Int) ≤ i ∧ i < ((64 * j : Nat) : Int) + ((64 : Nat) : Int) then (σ.at_ p j).now (i - ((64 * j : Nat) : Int)) else (fun i => if i < ((64 * j : Nat) : Int) then σ.page p i else 0) i) fun i h6 h7 => by
      by_cases h8 : ((64 * j : Nat) : Int) ≤ i ∧ i < ((64 * j : Nat) : Int) + ((64 : Nat) : Int)
      · simp only [if_pos h8]
        rw [if_pos (by omega)]
        unfold ChipS.page
        rw [show i / 64 = j by omega, show i % 64 = i - ((64 * j : Nat) : Int) by omega]
      · simp only [if_neg h8]
        by_cases h9 : i < ((64 * j : Nat) : Int)
        · rw [if_pos h9, if_pos (by omega)]
        · rw [if_neg h9, if_neg (by omega)]
    rw [ec]
    exact this
  · obtain rfl : j = 4 := by omega
    simp (disch := omega) only [Option.bind_some, Option.map_some, cond_true, cond_false, wrap_i64, tmod_pos, tdiv_pos, inRange_yes, inUpto_yes, isZero_no, decide_eq_true, decide_eq_false, Bool.not_true, Bool.not_false, Int.toNat_natCast, Nat.mul_one, beqI_yes, beqI_no, bneI_yes, bneI_no, isNil_nil, isNil_iface, wr_wr, Option.isNone_none, Option.isNone_some, plus, Nat.zero_add, Nat.add_zero]
    refine .some ⟨d0, rfl, rfl, ?_⟩
    rw [arr_congr (f := σ.page p) (g := fun i => if i < ((64 * 4 : Nat) : Int) then σ.page p i else 0) fun i h5 h6 => (if_pos (by omega)).symm]
    exact hO3

theorem some_ok (k : Nat) (hk : 100 < k) {m : Mem} {F : Heap} (hO : Mx.Own m F) (v : Int) : Ok (patinalaw05_some k v m) fun r => ∃ d, r.1 = ⟨some ⟨d, 0, none⟩, 64, 64⟩ ∧ Mx.Own r.2 ((d, .live (arr .u8 64 fun _ => v)) :: F) := by
  unfold patinalaw05_some
  have h1 := hO.new (.live (arr .u8 64 fun _ => 0))
  have t64 : Int.toNat 64 = 64 := rfl
  simp (disch := omega) only [Option.bind_some, Option.map_some, cond_true, cond_false, wrap_i64, tmod_pos, tdiv_pos, inRange_yes, inUpto_yes, isZero_no, decide_eq_true, decide_eq_false, Bool.not_true, Bool.not_false, Int.toNat_natCast, Nat.mul_one, beqI_yes, beqI_no, bneI_yes, bneI_no, isNil_nil, isNil_iface, wr_wr, Option.isNone_none, Option.isNone_some, plus, Nat.zero_add, Nat.add_zero, t64, repl_int]
  generalize m ++ [MObj.live (arr .u8 64 fun _ => 0)] = m1 at h1 ⊢
  generalize m.length = d0 at h1 ⊢
  refine patinalaw05_some_l0_rule k _ (fun d x0 x3a x3n x3c x4 m' => v = x0 ∧ (some ⟨d0, 0, none⟩ : Option Addr) = x3a ∧ 64 = x3n ∧ 64 = x3c ∧ 0 ≤ x4 ∧ x4 + d = 64 ∧ ∃ f : Int → Int, (∀ i, 0 ≤ i → i < x4 → f i = v) ∧ Mx.Own m' ((d0, .live (arr .u8 64 f)) :: F)) ?_ k 64 _ _ _ _ 0 _ (by omega)
    ⟨rfl, rfl, rfl, rfl, by omega, by omega, _, fun i h2 h3 => by omega, h1⟩
  rintro d nx _ _ _ _ i m' ⟨rfl, rfl, rfl, rfl, hi, hd, f, hf, h2⟩ hnx
  unfold patinalaw05_some_l0_b
  by_cases h3 : i < 64
  · simp (disch := omega) only [Option.bind_some, Option.map_some, cond_true, cond_false, wrap_i64, tmod_pos, tdiv_pos, inRange_yes, inUpto_yes, isZero_no, decide_eq_true, decide_eq_false, Bool.not_true, Bool.not_false, Int.toNat_natCast, Nat.mul_one, beqI_yes, beqI_no, bneI_yes, bneI_no, isNil_nil, isNil_iface, wr_wr, Option.isNone_none, Option.isNone_some, plus, Nat.zero_add, Nat.add_zero, arr_st (h2.at 0 rfl)]
    refine hnx (d - 1) _ _ _ _ _ _ (by omega) ⟨rfl, rfl, rfl, rfl, by omega, by omega, upd f i v, fun j h4 h5 => ?_, h2.wr 0 rfl _⟩
    unfold upd; have := hf j h4; grind
  · simp (disch := omega) only [Option.bind_some, Option.map_some, cond_true, cond_false, wrap_i64, tmod_pos, tdiv_pos, inRange_yes, inUpto_yes, isZero_no, decide_eq_true, decide_eq_false, Bool.not_true, Bool.not_false, Int.toNat_natCast, Nat.mul_one, beqI_yes, beqI_no, bneI_yes, bneI_no, isNil_nil, isNil_iface, wr_wr, Option.isNone_none, Option.isNone_some, plus, Nat.zero_add, Nat.add_zero]
    refine .some ⟨d0, rfl, ?_⟩
    rw [arr_congr (f := fun _ => v) (g := f) fun j h4 h5 => (hf j h4 (by omega)).symm]
    exact h2
theorem pick05_is (k : Nat) (v n : Int) (m : Mem) (hv : -9223372036854775808 ≤ v ∧ v < 9223372036854775808) (hn : 0 < n) : ∃ r, patinalaw05_pick k v n m = some (r, m) ∧ 0 ≤ r ∧ r < n := by
  unfold patinalaw05_pick patinalaw05_pick_j1
  by_cases h : v < 0
  · simp (disch := omega) only [Option.bind_some, Option.map_some, cond_true, cond_false, wrap_i64, tmod_pos, tdiv_pos, inRange_yes, inUpto_yes, isZero_no, decide_eq_true, decide_eq_false, Bool.not_true, Bool.not_false, Int.toNat_natCast, Nat.mul_one, beqI_yes, beqI_no, bneI_yes, bneI_no, isNil_nil, isNil_iface, wr_wr, Option.isNone_none, Option.isNone_some, plus, Nat.zero_add, Nat.add_zero]
    exact ⟨_, rfl, Int.emod_nonneg _ (by omega), Int.emod_lt_of_pos _ hn⟩
  · simp (disch := omega) only [Option.bind_some, Option.map_some, cond_true, cond_false, wrap_i64, tmod_pos, tdiv_pos, inRange_yes, inUpto_yes, isZero_no, decide_eq_true, decide_eq_false, Bool.not_true, Bool.not_false, Int.toNat_natCast, Nat.mul_one, beqI_yes, beqI_no, bneI_yes, bneI_no, isNil_nil, isNil_iface, wr_wr, Option.isNone_none, Option.isNone_some, plus, Nat.zero_add, Nat.add_zero]
    exact ⟨_, rfl, Int.emod_nonneg _ (by omega), Int.emod_lt_of_pos _ hn⟩
end Go.Proofs.Ytlbbcgjfkpnilaa
