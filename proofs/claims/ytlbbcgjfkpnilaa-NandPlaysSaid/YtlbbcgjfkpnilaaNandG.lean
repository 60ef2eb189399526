/- What a chip's functions do: those that make something. -/
import Derived.Test.YtlbbcgjfkpnilaaNandF
set_option linter.unusedVariables false
set_option linter.unusedSectionVars false
set_option linter.unusedSimpArgs false
namespace Go.Proofs.Ytlbbcgjfkpnilaa
open Go.Mx

def blank : ChunkS := ⟨fun _ => 255, fun _ => 255, false, 0⟩
def zeroCh : ChunkS := ⟨fun _ => 0, fun _ => 0, false, 0⟩
def BlockS.clear (β : BlockS) : BlockS := { β with ch := fun _ => blank, reads := 0 }
theorem blockC_congr {β : BlockS} {f : Int → ChunkS} (h : ∀ j : Int, 0 ≤ j → j < 32 → β.ch j = f j) : blockC β = blockC { β with ch := f } := by
  unfold blockC
  rw [farr_congr (g := fun j => chunkC (f j)) fun j h1 h2 => by simp only [h j h1 (by omega)]]
theorem chipC_congr {σ : ChipS} {f : Int → BlockS} (h : ∀ x : Int, 0 ≤ x → x < 12 → blockC (σ.b x) = blockC (f x)) : chipC σ = chipC { σ with b := f } := by
  unfold chipC
  rw [farr_congr (g := fun j => blockC (f j)) fun j h1 h2 => by simp only [h j h1 (by omega)]]

/-! a chunk by itself -/
section
variable {m : Mem} {w : Nat} {s : ChunkS} (h : m[w]? = some (.live (chunkC s)))
include h
theorem ch_stNow {i : Int} (h0 : 0 ≤ i) (h1 : i < 64) (v : Int) : st m ⟨w, i.toNat, none⟩ (.int .u8 v) = some (wr m w (chunkC { s with now := upd s.now i v })) := by
  rw [st_wr h (by rw [chunkC_len]; omega)]
  unfold chunkC; rw [List.set_append_left _ _ (by simp; omega), arr_set h0]
theorem ch_now : ldCells m ⟨w, 0, none⟩ 64 = some (arr .u8 64 s.now) := by
  rw [ldCells_of h (by rw [chunkC_len]; omega)]
  unfold chunkC; rw [List.drop_zero]; exact congrArg some arr_take
theorem ch_stTru (f : Int → Int) : stCells m ⟨w, 64, none⟩ (arr .u8 64 f) = some (wr m w (chunkC { s with tru := f })) := by
  rw [stCells_wr h (by rw [chunkC_len, arr_length]; omega)]
  unfold chunkC; rw [List.take_left' (by simp), arr_length, List.append_assoc]
  rw [show 64 + 64 = (arr .u8 64 s.now).length + 64 by simp, List.drop_length_add_append, List.drop_left' (by simp)]
theorem ch_all : ldCells m ⟨w, 0, none⟩ 130 = some (chunkC s) := by
  rw [ldCells_of h (by rw [chunkC_len]; omega), List.drop_zero, List.take_of_length_le (by rw [chunkC_len]; omega)]
end

theorem nand_clear_ok (k : Nat) (hk : 100 < k) {m : Mem} {c : Nat} {σ : ChipS} (h : m[c]? = some (.live (chipC σ))) {x : Int} (h0 : 0 ≤ x) (h1 : x < 12) :
    ∃ g, nand_block_clear k (some ⟨c, x.toNat * 4164, none⟩) m = some (wr m c (chipC (σ.updB x (σ.b x).clear)) ++ [g]) := by
  have key : Ok (nand_block_clear k (some ⟨c, x.toNat * 4164, none⟩) m) fun m' => ∃ g, m' = wr m c (chipC (σ.updB x (σ.b x).clear)) ++ [g] := by
    unfold nand_block_clear
    have hcl := get_lt h
    have e0 : (repl 64 [Value.int .u8 0] ++ repl 64 [Value.int .u8 0] ++ [Value.bool false] ++ [Value.int .i64 0]) = chunkC zeroCh := by
      rw [repl_int]; simp [chunkC, zeroCh]
    simp only [e0]
    refine nand_block_clear_l0_rule k _ (fun d x0 x2 x6 m' => some ⟨c, x.toNat * 4164, none⟩ = x0 ∧ ⟨m.length, 0, none⟩ = x2 ∧ 0 ≤ x6 ∧ x6 + d = 64 ∧ ∃ f : Int → Int, (∀ i, 0 ≤ i → i < x6 → f i = 255) ∧ m' = m ++ [.live (chunkC ⟨f, fun _ => 0, false, 0⟩)]) ?_ k 64 _ _ 0 _ (by omega)
      ⟨rfl, rfl, by omega, by omega, _, fun i h2 h3 => by omega, rfl⟩
    rintro d nx _ _ i _ ⟨rfl, rfl, hi, hd, f, hf, rfl⟩ hnx
    have hw := get_last (m := m) (o := .live (chunkC ⟨f, fun _ => 0, false, 0⟩)) rfl
    unfold nand_block_clear_l0_b
    by_cases h2 : i < 64
    · simp (disch := omega) only [Option.bind_some, Option.map_some, cond_true, cond_false, wrap_i64, tmod_pos, tdiv_pos, inRange_yes, inUpto_yes, isZero_no, decide_eq_true, decide_eq_false, Bool.not_true, Bool.not_false, Int.toNat_natCast, Nat.mul_one, beqI_yes, beqI_no, bneI_yes, bneI_no, isNil_nil, isNil_iface, wr_wr, Option.isNone_none, Option.isNone_some, plus, Nat.zero_add, Nat.add_zero, ch_stNow hw hi h2, wr_last (m := m) rfl]
      exact hnx (d - 1) _ _ _ _ (by omega) ⟨rfl, rfl, by omega, by omega, upd f i 255, fun j h3 h4 => by unfold upd; have := hf j h3; grind, rfl⟩
    · clear hnx
      have hi2 : i = 64 := by omega
      subst hi2
      have hw2 := get_last (m := m) (o := .live (chunkC ⟨f, f, false, 0⟩)) rfl
      have hl : Nat.beq (arr .u8 64 f).length 64 = true := by rw [arr_length]; rfl
      simp (disch := omega) only [Option.bind_some, Option.map_some, cond_true, cond_false, wrap_i64, tmod_pos, tdiv_pos, inRange_yes, inUpto_yes, isZero_no, decide_eq_true, decide_eq_false, Bool.not_true, Bool.not_false, Int.toNat_natCast, Nat.mul_one, beqI_yes, beqI_no, bneI_yes, bneI_no, isNil_nil, isNil_iface, wr_wr, Option.isNone_none, Option.isNone_some, plus, Nat.zero_add, Nat.add_zero, ch_now hw, hl, ch_stTru hw, wr_last (m := m) rfl]
      -- the pages
      have hb : (⟨f, f, false, 0⟩ : ChunkS).now = f := rfl
      have hC : chunkC ⟨f, f, false, 0⟩ = chunkC blank := by
        unfold chunkC blank
        rw [arr_congr (f := f) (g := fun _ => 255) fun i h3 h4 => hf i h3 (by omega)]
      rw [hC] at hw2 ⊢
      clear hC hb hf hw
      refine nand_block_clear_l2_rule k _ (fun d x0 x2 x16 m' => some ⟨c, x.toNat * 4164, none⟩ = x0 ∧ ⟨m.length, 0, none⟩ = x2 ∧ 0 ≤ x16 ∧ x16 + d = 8 ∧ ∃ g : Int → ChunkS, (∀ j, 0 ≤ j → j < x16 * 4 → g j = blank) ∧ m' = wr m c (chipC (σ.updB x { σ.b x with ch := g })) ++ [.live (chunkC blank)]) ?_ k 8 _ _ 0 _ (by omega)
        ⟨rfl, rfl, by omega, by omega, (σ.b x).ch, fun j h2 h3 => by omega, by rw [show ({ σ.b x with ch := (σ.b x).ch } : BlockS) = σ.b x from rfl, updB_self, wr_same h]⟩
      rintro d nx _ _ i _ ⟨rfl, rfl, hi, hd, g, hg, rfl⟩ hnx
      unfold nand_block_clear_l2_b
      by_cases h3 : i < 8
      · simp (disch := omega) only [Option.bind_some, Option.map_some, cond_true, cond_false, wrap_i64, tmod_pos, tdiv_pos, inRange_yes, inUpto_yes, isZero_no, decide_eq_true, decide_eq_false, Bool.not_true, Bool.not_false, Int.toNat_natCast, Nat.mul_one, beqI_yes, beqI_no, bneI_yes, bneI_no, isNil_nil, isNil_iface, wr_wr, Option.isNone_none, Option.isNone_some, plus, Nat.zero_add, Nat.add_zero]
        refine nand_block_clear_l4_rule k _ (fun d' x0 x2 x4 x16 x19 m' => some ⟨c, x.toNat * 4164, none⟩ = x0 ∧ ⟨m.length, 0, none⟩ = x2 ∧ i = x4 ∧ i = x16 ∧ 0 ≤ x19 ∧ x19 + d' = 4 ∧ ∃ g : Int → ChunkS, (∀ j, 0 ≤ j → j < i * 4 + x19 → g j = blank) ∧ m' = wr m c (chipC (σ.updB x { σ.b x with ch := g })) ++ [.live (chunkC blank)]) ?_ k 4 _ _ _ _ 0 _ (by omega)
          ⟨rfl, rfl, rfl, rfl, by omega, by omega, g, by simpa using hg, rfl⟩
        rintro d' nx' _ _ _ _ q _ ⟨rfl, rfl, rfl, rfl, hq, hd', g, hg, rfl⟩ hnx'
        unfold nand_block_clear_l4_b
        by_cases h4 : q < 4
        · have hlen : (wr m c (chipC (σ.updB x { σ.b x with ch := g }))).length = m.length := wr_len
          have hw3 := get_last (o := .live (chunkC blank)) hlen
          have hc3 : (wr m c (chipC (σ.updB x { σ.b x with ch := g })) ++ [MObj.live (chunkC blank)])[c]? = some (.live (chipC (σ.updB x { σ.b x with ch := g }))) := get_grow (wr_get h)
          have hl2 : Nat.beq (chunkC blank).length 130 = true := by rw [chunkC_len]; rfl
          have e1 : stCells (wr m c (chipC (σ.updB x { σ.b x with ch := g })) ++ [MObj.live (chunkC blank)]) ⟨c, x.toNat * 4164 + i.toNat * 520 + q.toNat * 130, none⟩ (chunkC blank) = some (wr m c (chipC (σ.updB x { σ.b x with ch := upd g (i * 4 + q) blank })) ++ [.live (chunkC blank)]) := by
            rw [stCells_wr hc3 (by rw [chipC_len, chunkC_len]; omega), wr_app (by rw [hlen]; exact hcl), wr_wr]
            have e2 := block_put (β := { σ.b x with ch := g }) (j := (i * 4 + q).toNat) (by omega) (o := 0) (vs := chunkC blank) (by rw [chunkC_len]; omega) (c := blank) (by
              rw [List.take_zero, List.nil_append, List.drop_of_length_le (by rw [chunkC_len, chunkC_len]; omega), List.append_nil])
            rw [show (((i * 4 + q).toNat : Nat) : Int) = i * 4 + q by omega, Nat.add_zero] at e2
            have e3 := chip_bput (σ := σ.updB x { σ.b x with ch := g }) h0 h1 (o := (i * 4 + q).toNat * 130) (vs := chunkC blank) (by rw [chunkC_len]; omega) (by rw [updB_b]; exact e2)
            rw [updB_updB] at e3
            rw [show x.toNat * 4164 + i.toNat * 520 + q.toNat * 130 = x.toNat * 4164 + (i * 4 + q).toNat * 130 by omega, e3]
            rfl
          simp (disch := omega) only [Option.bind_some, Option.map_some, cond_true, cond_false, wrap_i64, tmod_pos, tdiv_pos, inRange_yes, inUpto_yes, isZero_no, decide_eq_true, decide_eq_false, Bool.not_true, Bool.not_false, Int.toNat_natCast, Nat.mul_one, beqI_yes, beqI_no, bneI_yes, bneI_no, isNil_nil, isNil_iface, wr_wr, Option.isNone_none, Option.isNone_some, plus, Nat.zero_add, Nat.add_zero, ch_all hw3, hl2, e1]
          exact hnx' (d' - 1) _ _ _ _ _ _ (by omega) ⟨rfl, rfl, rfl, rfl, by omega, by omega, _, fun j h5 h6 => by unfold upd; have := hg j h5; grind, rfl⟩
        · simp (disch := omega) only [Option.bind_some, Option.map_some, cond_true, cond_false, wrap_i64, tmod_pos, tdiv_pos, inRange_yes, inUpto_yes, isZero_no, decide_eq_true, decide_eq_false, Bool.not_true, Bool.not_false, Int.toNat_natCast, Nat.mul_one, beqI_yes, beqI_no, bneI_yes, bneI_no, isNil_nil, isNil_iface, wr_wr, Option.isNone_none, Option.isNone_some, plus, Nat.zero_add, Nat.add_zero]
          exact hnx (d - 1) _ _ _ _ (by omega) ⟨rfl, rfl, by omega, by omega, g, fun j h5 h6 => hg j h5 (by omega), rfl⟩
      · clear hnx
        have hlen : (wr m c (chipC (σ.updB x { σ.b x with ch := g }))).length = m.length := wr_len
        have hc3 : (wr m c (chipC (σ.updB x { σ.b x with ch := g })) ++ [MObj.live (chunkC blank)])[c]? = some (.live (chipC (σ.updB x { σ.b x with ch := g }))) := get_grow (wr_get h)
        have e1 := chip_stReads hc3 h0 h1 0
        rw [wr_app (by rw [hlen]; exact hcl), wr_wr, updB_updB, updB_b] at e1
        simp (disch := omega) only [Option.bind_some, Option.map_some, cond_true, cond_false, wrap_i64, tmod_pos, tdiv_pos, inRange_yes, inUpto_yes, isZero_no, decide_eq_true, decide_eq_false, Bool.not_true, Bool.not_false, Int.toNat_natCast, Nat.mul_one, beqI_yes, beqI_no, bneI_yes, bneI_no, isNil_nil, isNil_iface, wr_wr, Option.isNone_none, Option.isNone_some, plus, Nat.zero_add, Nat.add_zero, sync_atomic_Int64_Store, sync_atomic_StoreInt64, atStore, e1]
        refine .some ⟨.live (chunkC blank), ?_⟩
        congr 2
        refine (chipC_congr (f := (σ.updB x (σ.b x).clear).b) fun y h5 h6 => ?_).trans rfl
        unfold ChipS.updB upd
        by_cases h7 : y = x
        · simp only [h7, if_true]
          exact blockC_congr (f := fun _ => blank) fun j h8 h9 => hg j h8 (by omega)
        · simp only [h7, if_false]
  obtain ⟨m', h2, g, rfl⟩ := key
  exact ⟨g, h2⟩
end Go.Proofs.Ytlbbcgjfkpnilaa
