/- What a chip's functions do: a clone. -/
import Derived.Test.YtlbbcgjfkpnilaaNandJ
set_option linter.unusedVariables false
set_option linter.unusedSectionVars false
set_option linter.unusedSimpArgs false
namespace Go.Proofs.Ytlbbcgjfkpnilaa
open Go.Mx

section
variable {F : List Value} {L : Nat} (h : F.length = L) (w x y z v : Value)
include h
theorem put4a : putAt (F ++ [w, x, y, z]) L 1 [v] = F ++ [v, x, y, z] := by
  subst h; unfold putAt
  rw [List.take_left, List.drop_append, List.drop_eq_nil_of_le (by omega), Nat.add_sub_cancel_left]; simp
theorem put4b : putAt (F ++ [w, x, y, z]) (L + 1) 1 [v] = F ++ [w, v, y, z] := by
  subst h; unfold putAt
  rw [List.take_append, List.take_of_length_le (by omega), List.drop_append, List.drop_eq_nil_of_le (by omega), Nat.add_sub_cancel_left, show F.length + 1 + 1 - F.length = 2 by omega]; simp
theorem put4c : putAt (F ++ [w, x, y, z]) (L + 2) 1 [v] = F ++ [w, x, v, z] := by
  subst h; unfold putAt
  rw [List.take_append, List.take_of_length_le (by omega), List.drop_append, List.drop_eq_nil_of_le (by omega), Nat.add_sub_cancel_left, show F.length + 2 + 1 - F.length = 3 by omega]; simp
theorem put4d : putAt (F ++ [w, x, y, z]) (L + 3) 1 [v] = F ++ [w, x, y, v] := by
  subst h; unfold putAt
  rw [List.take_append, List.take_of_length_le (by omega), List.drop_append, List.drop_eq_nil_of_le (by omega), Nat.add_sub_cancel_left, show F.length + 3 + 1 - F.length = 4 by omega]; simp
end
theorem chip_head (Z : ChipS) (a b : Bool) (c d : Int) : putAt (putAt (putAt (putAt (chipC Z) 49968 1 [.bool a]) 49969 1 [.bool b]) 49970 1 [.int .i64 c]) 49971 1 [.int .i64 d] = chipC ⟨Z.b, a, b, c, d⟩ := by
  unfold chipC
  have h := blocks_len Z
  generalize farr 12 (fun i => blockC (Z.b i)) = F at h ⊢
  rw [put4a h, put4b h, put4c h, put4d h]
theorem chip_beq (Z : ChipS) : Nat.beq (chipC Z).length 49972 = true := by rw [chipC_len]; rfl
section
variable {m : Mem} {c : Nat} {σ : ChipS} {i : Int} (hi : 0 ≤ i) (h3 : i < 12)
include hi h3
theorem clone_ld (hc : m[c]? = some (.live (chipC σ))) : ldCells m ⟨c, i.toNat * 4164, none⟩ 4160 = some (farr 32 fun j => chunkC ((σ.b i).ch j)) := by
  rw [ldCells_of hc (by rw [chipC_len]; omega)]
  have := chip_bsub (σ := σ) hi h3 (o := 0) (l := 4160) (by omega)
  rw [Nat.add_zero] at this
  rw [this, List.drop_zero]
  unfold blockC
  rw [List.take_left' (chunks_len _)]
theorem clone_st (hc : m[c]? = some (.live (chipC σ))) (f : Int → ChunkS) : stCells m ⟨c, i.toNat * 4164, none⟩ (farr 32 fun j => chunkC (f j)) = some (wr m c (chipC (σ.updB i { σ.b i with ch := f }))) := by
  have hl : (farr 32 fun j => chunkC (f j)).length = 4160 := chunks_len { σ.b i with ch := f }
  rw [stCells_wr hc (by rw [chipC_len, hl]; omega)]
  have := chip_bput (σ := σ) hi h3 (o := 0) (vs := farr 32 fun j => chunkC (f j)) (by rw [hl]; omega) (β := { σ.b i with ch := f }) (by
    rw [List.take_zero, List.nil_append, Nat.zero_add, hl]
    unfold blockC
    rw [List.drop_left' (chunks_len _)])
  rw [Nat.add_zero] at this
  rw [this]
end
theorem cloneLoop (k : Nat) (hk : 100 < k) {m : Mem} {c : Nat} {σ : ChipS} (h : m[c]? = some (.live (chipC σ))) (b0 : Int → BlockS) : Ok (nand_Chip_Clone_l0 k (fun y m => some (some y, m)) k (some ⟨c, 0, none⟩) ⟨m.length, 0, none⟩ 0 (m ++ [.live (chipC { σ with b := b0 })])) fun r => r = (some ⟨m.length, 0, none⟩, m ++ [.live (chipC σ)]) := by
  refine nand_Chip_Clone_l0_rule k _ (fun d x0 x1 x2 M => (some ⟨c, 0, none⟩ : Option Addr) = x0 ∧ (⟨m.length, 0, none⟩ : Addr) = x1 ∧ 0 ≤ x2 ∧ x2 + d = 12 ∧ ∃ f : Int → BlockS, (∀ y, 0 ≤ y → y < x2 → f y = σ.b y) ∧ M = m ++ [.live (chipC { σ with b := f })]) ?_ k 12 _ _ 0 _ (by omega)
    ⟨rfl, rfl, by omega, by omega, b0, fun y h0 h1 => by omega, rfl⟩
  rintro d nx _ _ i _ ⟨rfl, rfl, hi, hd, f, hf, rfl⟩ hnx
  unfold nand_Chip_Clone_l0_b
  by_cases h3 : i < 12
  · have i1 : inRange i 12 = true := inRange_yes hi h3
    have hc : ∀ X : ChipS, (m ++ [MObj.live (chipC X)])[c]? = some (.live (chipC σ)) := fun X => get_grow h
    have hdd : ∀ X : ChipS, (m ++ [MObj.live (chipC X)])[m.length]? = some (.live (chipC X)) := fun X => get_last rfl
    obtain ⟨τ, hτ⟩ : ∃ τ : ChipS, τ = { σ with b := f } := ⟨_, rfl⟩
    rw [← hτ]
    have l1 : Nat.beq (farr 32 fun j => chunkC ((σ.b i).ch j)).length 4160 = true := by rw [chunks_len]; rfl
    have e1 := clone_ld hi h3 (hc τ)
    have e2 := clone_st hi h3 (hdd τ) (σ.b i).ch
    rw [wr_last rfl] at e2
    have e3 := fun X => chip_ldReads (hc X) hi h3
    have e4 := fun X => chip_ldFailed (hc X) hi h3
    have e5 := fun X => chip_ldBefore (hc X) hi h3
    have e6 := fun X => chip_ldAtErase (hc X) hi h3
    have s1 := fun β => chip_stReads (hdd (τ.updB i β)) hi h3 (σ.b i).reads
    have s2 := fun β => chip_stFailed (hdd (τ.updB i β)) hi h3 (σ.b i).failed
    have s3 := fun β => chip_stBefore (hdd (τ.updB i β)) hi h3 (σ.b i).before
    have s4 := fun β => chip_stAtErase (hdd (τ.updB i β)) hi h3 (σ.b i).atErase
    simp only [wr_last, updB_updB, updB_b] at s1 s2 s3 s4
    simp (disch := omega) only [Option.bind_some, Option.map_some, cond_true, cond_false, wrap_i64, tmod_pos, tdiv_pos, inRange_yes, inUpto_yes, isZero_no, decide_eq_true, decide_eq_false, Bool.not_true, Bool.not_false, Int.toNat_natCast, Nat.mul_one, beqI_yes, beqI_no, bneI_yes, bneI_no, isNil_nil, isNil_iface, wr_wr, Option.isNone_none, Option.isNone_some, plus, Nat.zero_add, Nat.add_zero, i1, e1, l1, e2, sync_atomic_Int64_Load, sync_atomic_LoadInt64, atLoad, e3, sync_atomic_Int64_Store, sync_atomic_StoreInt64, atStore, s1, e4, e5, e6, s2, s3, s4]
    refine hnx (d - 1) _ _ _ _ (by omega) ⟨rfl, rfl, by omega, by omega, upd f i (σ.b i), fun y h0 h1 => ?_, ?_⟩
    · unfold upd
      split
      · rename_i hy; rw [hy]
      · exact hf y h0 (by omega)
    · have e9 : τ.updB i (σ.b i) = { σ with b := upd f i (σ.b i) } := by rw [hτ]; unfold ChipS.updB; rfl
      rw [← e9]
  · simp (disch := omega) only [Option.bind_some, Option.map_some, cond_true, cond_false, wrap_i64, tmod_pos, tdiv_pos, inRange_yes, inUpto_yes, isZero_no, decide_eq_true, decide_eq_false, Bool.not_true, Bool.not_false, Int.toNat_natCast, Nat.mul_one, beqI_yes, beqI_no, bneI_yes, bneI_no, isNil_nil, isNil_iface, wr_wr, Option.isNone_none, Option.isNone_some, plus, Nat.zero_add, Nat.add_zero]
    refine .some ?_
    rw [← chipC_congr (σ := σ) (f := f) fun x h4 h5 => by rw [hf x h4 (by omega)]]
theorem chipClone_is (k : Nat) (hk : 100 < k) {m : Mem} {c : Nat} {σ : ChipS} (h : m[c]? = some (.live (chipC σ))) : Ok (nand_Chip_Clone k (some ⟨c, 0, none⟩) m) fun r => r = (some ⟨m.length, 0, none⟩, m ++ [.live (chipC σ)]) := by
  unfold nand_Chip_Clone
  rw [zero_chip]
  simp (implicitDefEqProofs := false) only [Option.bind_some, plus, Nat.zero_add, chip_ldOff h, chip_ldCut h, chip_ldBudget h, chip_ldSteps h, chip_head, chip_beq, cond_true]
  exact cloneLoop k hk h zchip.b
end Go.Proofs.Ytlbbcgjfkpnilaa
