/- What a chip is, and what is loaded and stored of it. -/
import Derived.Test.YtlbbcgjfkpnilaaFnand
import Derived.Test.YtlbbcgjfkpnilaaMxFlat
import Derived.Test.YtlbbcgjfkpnilaaErr
set_option linter.unusedVariables false
set_option linter.unusedSectionVars false
set_option linter.unusedSimpArgs false
namespace Go.Proofs.Ytlbbcgjfkpnilaa
open Go.Mx

structure ChunkS where
  now : Int → Int
  tru : Int → Int
  is : Bool
  worst : Int
structure BlockS where
  ch : Int → ChunkS
  reads : Int
  failed : Bool
  before : Int
  atErase : Bool
structure ChipS where
  b : Int → BlockS
  off : Bool
  cut : Bool
  budget : Int
  steps : Int

def chunkC (c : ChunkS) : List Value := arr .u8 64 c.now ++ (arr .u8 64 c.tru ++ [.bool c.is, .int .i64 c.worst])
def blockC (β : BlockS) : List Value := farr 32 (fun j => chunkC (β.ch j)) ++ [.int .i64 β.reads, .bool β.failed, .int .i64 β.before, .bool β.atErase]
def chipC (σ : ChipS) : List Value := farr 12 (fun i => blockC (σ.b i)) ++ [.bool σ.off, .bool σ.cut, .int .i64 σ.budget, .int .i64 σ.steps]
def ChipS.updB (σ : ChipS) (x : Int) (β : BlockS) : ChipS := { σ with b := upd σ.b x β }
def BlockS.updC (β : BlockS) (j : Int) (c : ChunkS) : BlockS := { β with ch := upd β.ch j c }
/-- a page's chunk -/
def ChipS.at_ (σ : ChipS) (p k : Int) : ChunkS := (σ.b (p / 8)).ch (p % 8 * 4 + k)
def ChipS.put (σ : ChipS) (p k : Int) (c : ChunkS) : ChipS := σ.updB (p / 8) ((σ.b (p / 8)).updC (p % 8 * 4 + k) c)
def chA (p k : Int) : Nat := (p / 8).toNat * 4164 + (p % 8).toNat * 520 + k.toNat * 130

theorem chunkC_len (c : ChunkS) : (chunkC c).length = 130 := by simp [chunkC]
theorem chunks_len (β : BlockS) : (farr 32 (fun j => chunkC (β.ch j))).length = 4160 := farr_len (z := 130) fun _ _ _ => chunkC_len _
theorem blockC_len (β : BlockS) : (blockC β).length = 4164 := by unfold blockC; rw [List.length_append, chunks_len]; rfl
theorem blocks_len (σ : ChipS) : (farr 12 (fun i => blockC (σ.b i))).length = 49968 := farr_len (z := 4164) fun _ _ _ => blockC_len _
theorem chipC_len (σ : ChipS) : (chipC σ).length = 49972 := by unfold chipC; rw [List.length_append, blocks_len]; rfl

theorem upd_map {α β : Type} (f : Int → α) (g : α → β) (x : Int) (v : α) : (fun i => g (upd f x v i)) = upd (fun i => g (f i)) x (g v) := by
  funext i; unfold upd; split <;> rfl

section
variable {β : BlockS} {j : Nat} (hj : j < 32)
include hj
theorem block_cell {y : Nat} (hy : y < 130) : (blockC β)[j * 130 + y]? = (chunkC (β.ch j))[y]? := by
  unfold blockC
  rw [List.getElem?_append_left (by rw [chunks_len]; omega)]
  exact farr_get (f := fun j => chunkC (β.ch j)) (fun _ _ _ => chunkC_len _) hj hy
theorem block_set {y : Nat} (hy : y < 130) {v : Value} {c : ChunkS} (h : (chunkC (β.ch j)).set y v = chunkC c) : (blockC β).set (j * 130 + y) v = blockC (β.updC j c) := by
  unfold blockC
  rw [List.set_append_left _ _ (by rw [chunks_len]; omega), farr_set (f := fun j => chunkC (β.ch j)) (fun _ _ _ => chunkC_len _) hj hy]
  simp only [BlockS.updC, upd_map, h]
theorem block_sub {o l : Nat} (hl : o + l ≤ 130) : ((blockC β).drop (j * 130 + o)).take l = ((chunkC (β.ch j)).drop o).take l := by
  unfold blockC
  rw [List.drop_append_of_le_length (by rw [chunks_len]; omega), List.take_append_of_le_length (by rw [List.length_drop, chunks_len]; omega)]
  exact farr_sub (f := fun j => chunkC (β.ch j)) (fun _ _ _ => chunkC_len _) hj hl
theorem block_put {o : Nat} {vs : List Value} (hl : o + vs.length ≤ 130) {c : ChunkS} (h : (chunkC (β.ch j)).take o ++ vs ++ (chunkC (β.ch j)).drop (o + vs.length) = chunkC c) :
    (blockC β).take (j * 130 + o) ++ vs ++ (blockC β).drop (j * 130 + o + vs.length) = blockC (β.updC j c) := by
  unfold blockC
  rw [List.take_append_of_le_length (by rw [chunks_len]; omega), List.drop_append_of_le_length (by rw [chunks_len]; omega), ← List.append_assoc,
    farr_put (f := fun j => chunkC (β.ch j)) (fun _ _ _ => chunkC_len _) hj hl]
  simp only [BlockS.updC, upd_map, h]
end
section
variable {σ : ChipS} {x : Int} (h0 : 0 ≤ x) (h1 : x < 12)
include h0 h1
theorem chip_bcell {y : Nat} (hy : y < 4164) : (chipC σ)[x.toNat * 4164 + y]? = (blockC (σ.b x))[y]? := by
  unfold chipC
  rw [List.getElem?_append_left (by rw [blocks_len]; omega)]
  have := farr_get (f := fun j => blockC (σ.b j)) (n := 12) (i := x.toNat) (fun _ _ _ => blockC_len _) (by omega) hy
  rw [show ((x.toNat : Nat) : Int) = x by omega] at this
  exact this
theorem chip_bset {y : Nat} (hy : y < 4164) {v : Value} {β : BlockS} (h : (blockC (σ.b x)).set y v = blockC β) : (chipC σ).set (x.toNat * 4164 + y) v = chipC (σ.updB x β) := by
  unfold chipC
  have := farr_set (f := fun j => blockC (σ.b j)) (n := 12) (i := x.toNat) (fun _ _ _ => blockC_len _) (by omega) hy v
  rw [show ((x.toNat : Nat) : Int) = x by omega] at this
  rw [List.set_append_left _ _ (by rw [blocks_len]; omega), this]
  simp only [ChipS.updB, upd_map, h]
theorem chip_bsub {o l : Nat} (hl : o + l ≤ 4164) : ((chipC σ).drop (x.toNat * 4164 + o)).take l = ((blockC (σ.b x)).drop o).take l := by
  unfold chipC
  rw [List.drop_append_of_le_length (by rw [blocks_len]; omega), List.take_append_of_le_length (by rw [List.length_drop, blocks_len]; omega)]
  have := farr_sub (f := fun j => blockC (σ.b j)) (n := 12) (i := x.toNat) (fun _ _ _ => blockC_len _) (by omega) hl
  rw [show ((x.toNat : Nat) : Int) = x by omega] at this
  exact this
theorem chip_bput {o : Nat} {vs : List Value} (hl : o + vs.length ≤ 4164) {β : BlockS} (h : (blockC (σ.b x)).take o ++ vs ++ (blockC (σ.b x)).drop (o + vs.length) = blockC β) :
    (chipC σ).take (x.toNat * 4164 + o) ++ vs ++ (chipC σ).drop (x.toNat * 4164 + o + vs.length) = chipC (σ.updB x β) := by
  unfold chipC
  have := farr_put (f := fun j => blockC (σ.b j)) (n := 12) (i := x.toNat) (fun _ _ _ => blockC_len _) (by omega) hl
  rw [show ((x.toNat : Nat) : Int) = x by omega] at this
  rw [List.take_append_of_le_length (by rw [blocks_len]; omega), List.drop_append_of_le_length (by rw [blocks_len]; omega), ← List.append_assoc, this]
  simp only [ChipS.updB, upd_map, h]
end

/-- a page and a chunk that there are -/
def isAt (p k : Int) : Prop := 0 ≤ p ∧ p < 96 ∧ 0 ≤ k ∧ k < 4
section
variable {σ : ChipS} {p k : Int} (hp : isAt p k)
include hp
theorem chA_eq (y : Nat) : chA p k + y = (p / 8).toNat * 4164 + ((p % 8 * 4 + k).toNat * 130 + y) := by
  obtain ⟨h0, h1, h2, h3⟩ := hp
  unfold chA; omega
theorem chip_cell {y : Nat} (hy : y < 130) : (chipC σ)[chA p k + y]? = (chunkC (σ.at_ p k))[y]? := by
  have ⟨h0, h1, h2, h3⟩ := hp
  rw [chA_eq hp, chip_bcell (by omega) (by omega) (by omega), block_cell (by omega) hy]
  unfold ChipS.at_
  rw [show (((p % 8 * 4 + k).toNat : Nat) : Int) = p % 8 * 4 + k by omega]
theorem chip_set {y : Nat} (hy : y < 130) {v : Value} {c : ChunkS} (h : (chunkC (σ.at_ p k)).set y v = chunkC c) : (chipC σ).set (chA p k + y) v = chipC (σ.put p k c) := by
  have ⟨h0, h1, h2, h3⟩ := hp
  rw [chA_eq hp]
  refine chip_bset (by omega) (by omega) (by omega) ?_
  have := block_set (β := σ.b (p / 8)) (j := (p % 8 * 4 + k).toNat) (by omega) hy (v := v) (c := c)
  rw [show (((p % 8 * 4 + k).toNat : Nat) : Int) = p % 8 * 4 + k by omega] at this
  exact this h
theorem chip_sub {o l : Nat} (hl : o + l ≤ 130) : ((chipC σ).drop (chA p k + o)).take l = ((chunkC (σ.at_ p k)).drop o).take l := by
  have ⟨h0, h1, h2, h3⟩ := hp
  rw [chA_eq hp, chip_bsub (by omega) (by omega) (by omega), block_sub (by omega) hl]
  unfold ChipS.at_
  rw [show (((p % 8 * 4 + k).toNat : Nat) : Int) = p % 8 * 4 + k by omega]
theorem chip_put {o : Nat} {vs : List Value} (hl : o + vs.length ≤ 130) {c : ChunkS} (h : (chunkC (σ.at_ p k)).take o ++ vs ++ (chunkC (σ.at_ p k)).drop (o + vs.length) = chunkC c) :
    (chipC σ).take (chA p k + o) ++ vs ++ (chipC σ).drop (chA p k + o + vs.length) = chipC (σ.put p k c) := by
  have ⟨h0, h1, h2, h3⟩ := hp
  rw [chA_eq hp]
  refine chip_bput (by omega) (by omega) (by omega) ?_
  have := block_put (β := σ.b (p / 8)) (j := (p % 8 * 4 + k).toNat) (by omega) hl (c := c)
  rw [show (((p % 8 * 4 + k).toNat : Nat) : Int) = p % 8 * 4 + k by omega] at this
  exact this h
end
theorem chip_off (σ : ChipS) : (chipC σ)[49968]? = some (.bool σ.off) := by unfold chipC; rw [List.getElem?_append_right (by rw [blocks_len]; omega), blocks_len]; rfl
theorem chip_cut (σ : ChipS) : (chipC σ)[49969]? = some (.bool σ.cut) := by unfold chipC; rw [List.getElem?_append_right (by rw [blocks_len]; omega), blocks_len]; rfl
theorem chip_budget (σ : ChipS) : (chipC σ)[49970]? = some (.int .i64 σ.budget) := by unfold chipC; rw [List.getElem?_append_right (by rw [blocks_len]; omega), blocks_len]; rfl
theorem chip_steps (σ : ChipS) : (chipC σ)[49971]? = some (.int .i64 σ.steps) := by unfold chipC; rw [List.getElem?_append_right (by rw [blocks_len]; omega), blocks_len]; rfl
theorem chip_setoff (σ : ChipS) (v : Bool) : (chipC σ).set 49968 (.bool v) = chipC { σ with off := v } := by unfold chipC; rw [List.set_append_right _ _ (by rw [blocks_len]; omega), blocks_len]; rfl
theorem chip_setcut (σ : ChipS) (v : Bool) : (chipC σ).set 49969 (.bool v) = chipC { σ with cut := v } := by unfold chipC; rw [List.set_append_right _ _ (by rw [blocks_len]; omega), blocks_len]; rfl
theorem chip_setbudget (σ : ChipS) (v : Int) : (chipC σ).set 49970 (.int .i64 v) = chipC { σ with budget := v } := by unfold chipC; rw [List.set_append_right _ _ (by rw [blocks_len]; omega), blocks_len]; rfl
theorem chip_setsteps (σ : ChipS) (v : Int) : (chipC σ).set 49971 (.int .i64 v) = chipC { σ with steps := v } := by unfold chipC; rw [List.set_append_right _ _ (by rw [blocks_len]; omega), blocks_len]; rfl
theorem block_at (β : BlockS) (q : Nat) : (blockC β)[4160 + q]? = [Value.int .i64 β.reads, .bool β.failed, .int .i64 β.before, .bool β.atErase][q]? := by
  unfold blockC; rw [List.getElem?_append_right (by rw [chunks_len]; omega), chunks_len, Nat.add_sub_cancel_left]
theorem block_setat (β : BlockS) (q : Nat) (v : Value) : (blockC β).set (4160 + q) v = farr 32 (fun j => chunkC (β.ch j)) ++ [Value.int .i64 β.reads, .bool β.failed, .int .i64 β.before, .bool β.atErase].set q v := by
  unfold blockC; rw [List.set_append_right _ _ (by rw [chunks_len]; omega), chunks_len, Nat.add_sub_cancel_left]

/-! ## loads and stores -/
section
variable {m : Mem} {c : Nat} {σ : ChipS} (h : m[c]? = some (.live (chipC σ)))
include h
theorem chip_ldOff : ldBool m ⟨c, 49968, none⟩ = some σ.off := ldBool_of h (chip_off σ)
theorem chip_ldCut : ldBool m ⟨c, 49969, none⟩ = some σ.cut := ldBool_of h (chip_cut σ)
theorem chip_ldBudget : ldInt .i64 m ⟨c, 49970, none⟩ = some σ.budget := ldInt_of h (chip_budget σ)
theorem chip_ldSteps : ldInt .i64 m ⟨c, 49971, none⟩ = some σ.steps := ldInt_of h (chip_steps σ)
theorem chip_stOff (v : Bool) : st m ⟨c, 49968, none⟩ (.bool v) = some (wr m c (chipC { σ with off := v })) := by rw [st_wr h (by rw [chipC_len]; omega), chip_setoff]
theorem chip_stCut (v : Bool) : st m ⟨c, 49969, none⟩ (.bool v) = some (wr m c (chipC { σ with cut := v })) := by rw [st_wr h (by rw [chipC_len]; omega), chip_setcut]
theorem chip_stBudget (v : Int) : st m ⟨c, 49970, none⟩ (.int .i64 v) = some (wr m c (chipC { σ with budget := v })) := by rw [st_wr h (by rw [chipC_len]; omega), chip_setbudget]
theorem chip_stSteps (v : Int) : st m ⟨c, 49971, none⟩ (.int .i64 v) = some (wr m c (chipC { σ with steps := v })) := by rw [st_wr h (by rw [chipC_len]; omega), chip_setsteps]
section
variable {x : Int} (h0 : 0 ≤ x) (h1 : x < 12)
include h0 h1
theorem chip_ldReads : ldInt .i64 m ⟨c, x.toNat * 4164 + 4160, none⟩ = some (σ.b x).reads := ldInt_of h (by rw [chip_bcell h0 h1 (by omega), block_at _ 0]; rfl)
theorem chip_ldFailed : ldBool m ⟨c, x.toNat * 4164 + 4161, none⟩ = some (σ.b x).failed := ldBool_of h (by rw [chip_bcell h0 h1 (by omega), block_at _ 1]; rfl)
theorem chip_ldBefore : ldInt .i64 m ⟨c, x.toNat * 4164 + 4162, none⟩ = some (σ.b x).before := ldInt_of h (by rw [chip_bcell h0 h1 (by omega), block_at _ 2]; rfl)
theorem chip_ldAtErase : ldBool m ⟨c, x.toNat * 4164 + 4163, none⟩ = some (σ.b x).atErase := ldBool_of h (by rw [chip_bcell h0 h1 (by omega), block_at _ 3]; rfl)
theorem chip_stReads (v : Int) : st m ⟨c, x.toNat * 4164 + 4160, none⟩ (.int .i64 v) = some (wr m c (chipC (σ.updB x { σ.b x with reads := v }))) := by
  rw [st_wr h (by rw [chipC_len]; omega), chip_bset (β := { σ.b x with reads := v }) h0 h1 (by omega) (by rw [block_setat _ 0]; simp [blockC])]
theorem chip_stFailed (v : Bool) : st m ⟨c, x.toNat * 4164 + 4161, none⟩ (.bool v) = some (wr m c (chipC (σ.updB x { σ.b x with failed := v }))) := by
  rw [st_wr h (by rw [chipC_len]; omega), chip_bset (β := { σ.b x with failed := v }) h0 h1 (by omega) (by rw [block_setat _ 1]; simp [blockC])]
theorem chip_stBefore (v : Int) : st m ⟨c, x.toNat * 4164 + 4162, none⟩ (.int .i64 v) = some (wr m c (chipC (σ.updB x { σ.b x with before := v }))) := by
  rw [st_wr h (by rw [chipC_len]; omega), chip_bset (β := { σ.b x with before := v }) h0 h1 (by omega) (by rw [block_setat _ 2]; simp [blockC])]
theorem chip_stAtErase (v : Bool) : st m ⟨c, x.toNat * 4164 + 4163, none⟩ (.bool v) = some (wr m c (chipC (σ.updB x { σ.b x with atErase := v }))) := by
  rw [st_wr h (by rw [chipC_len]; omega), chip_bset (β := { σ.b x with atErase := v }) h0 h1 (by omega) (by rw [block_setat _ 3]; simp [blockC])]
end
section
variable {p k : Int} (hp : isAt p k)
include hp
omit h in
theorem chA_lt : chA p k + 130 ≤ 49968 := by
  obtain ⟨h0, h1, h2, h3⟩ := hp
  unfold chA; omega
theorem chip_ldNow {i : Int} (h0 : 0 ≤ i) (h1 : i < 64) : ldInt .u8 m ⟨c, chA p k + i.toNat, none⟩ = some ((σ.at_ p k).now i) := ldInt_of h (by
  rw [chip_cell hp (by omega)]; unfold chunkC; rw [List.getElem?_append_left (by simp; omega)]; exact arr_getI h0 (by omega))
theorem chip_ldTru {i : Int} (h0 : 0 ≤ i) (h1 : i < 64) : ldInt .u8 m ⟨c, chA p k + 64 + i.toNat, none⟩ = some ((σ.at_ p k).tru i) := ldInt_of h (by
  rw [Nat.add_assoc, chip_cell hp (by omega)]; unfold chunkC
  rw [List.getElem?_append_right (by simp), arr_length, Nat.add_sub_cancel_left, List.getElem?_append_left (by simp; omega)]; exact arr_getI h0 (by omega))
theorem chip_ldIs : ldBool m ⟨c, chA p k + 128, none⟩ = some (σ.at_ p k).is := ldBool_of h (by
  rw [chip_cell hp (by omega)]; unfold chunkC; rw [List.getElem?_append_right (by simp), List.getElem?_append_right (by simp)]; simp)
theorem chip_ldWorst : ldInt .i64 m ⟨c, chA p k + 129, none⟩ = some (σ.at_ p k).worst := ldInt_of h (by
  rw [chip_cell hp (by omega)]; unfold chunkC; rw [List.getElem?_append_right (by simp), List.getElem?_append_right (by simp)]; simp)
theorem chip_stNow {i : Int} (h0 : 0 ≤ i) (h1 : i < 64) (v : Int) : st m ⟨c, chA p k + i.toNat, none⟩ (.int .u8 v) = some (wr m c (chipC (σ.put p k { σ.at_ p k with now := upd (σ.at_ p k).now i v }))) := by
  have := chA_lt hp
  rw [st_wr h (by rw [chipC_len]; omega), chip_set hp (by omega)]
  unfold chunkC; rw [List.set_append_left _ _ (by simp; omega), arr_set h0]
theorem chip_stIs (v : Bool) : st m ⟨c, chA p k + 128, none⟩ (.bool v) = some (wr m c (chipC (σ.put p k { σ.at_ p k with is := v }))) := by
  have := chA_lt hp
  rw [st_wr h (by rw [chipC_len]; omega), chip_set hp (by omega)]
  unfold chunkC; rw [List.set_append_right _ _ (by simp), List.set_append_right _ _ (by simp)]; simp
theorem chip_stWorst (v : Int) : st m ⟨c, chA p k + 129, none⟩ (.int .i64 v) = some (wr m c (chipC (σ.put p k { σ.at_ p k with worst := v }))) := by
  have := chA_lt hp
  rw [st_wr h (by rw [chipC_len]; omega), chip_set hp (by omega)]
  unfold chunkC; rw [List.set_append_right _ _ (by simp), List.set_append_right _ _ (by simp)]; simp
theorem chip_cellsNow : ldCells m ⟨c, chA p k, none⟩ 64 = some (arr .u8 64 (σ.at_ p k).now) := by
  have := chA_lt hp
  have e := chip_sub (σ := σ) hp (o := 0) (l := 64) (by omega)
  rw [Nat.add_zero, List.drop_zero] at e
  rw [ldCells_of h (by rw [chipC_len]; omega), e]
  unfold chunkC; exact congrArg some arr_take
theorem chip_cellsTru : ldCells m ⟨c, chA p k + 64, none⟩ 64 = some (arr .u8 64 (σ.at_ p k).tru) := by
  have := chA_lt hp
  rw [ldCells_of h (by rw [chipC_len]; omega), chip_sub hp (by omega)]
  unfold chunkC; rw [List.drop_left' (by simp)]; exact congrArg some arr_take
theorem chip_stCellsNow (f : Int → Int) : stCells m ⟨c, chA p k, none⟩ (arr .u8 64 f) = some (wr m c (chipC (σ.put p k { σ.at_ p k with now := f }))) := by
  have := chA_lt hp
  rw [stCells_wr h (by rw [chipC_len, arr_length]; omega)]
  have e := chip_put (σ := σ) hp (o := 0) (vs := arr .u8 64 f) (by simp) (c := { σ.at_ p k with now := f }) (by
    unfold chunkC; rw [List.take_zero, List.nil_append, Nat.zero_add, arr_length, List.drop_left' (by simp)])
  rw [Nat.add_zero] at e
  rw [e]
theorem chip_stCellsTru (f : Int → Int) : stCells m ⟨c, chA p k + 64, none⟩ (arr .u8 64 f) = some (wr m c (chipC (σ.put p k { σ.at_ p k with tru := f }))) := by
  have := chA_lt hp
  rw [stCells_wr h (by rw [chipC_len, arr_length]; omega)]
  rw [chip_put (σ := σ) hp (o := 64) (vs := arr .u8 64 f) (by simp) (c := { σ.at_ p k with tru := f }) (by
    unfold chunkC; rw [List.take_left' (by simp), arr_length, List.append_assoc]
    congr 2)]
end
end
end Go.Proofs.Ytlbbcgjfkpnilaa
