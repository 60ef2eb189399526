/- What a chip's functions do: bits are turned; the document's example. -/
import Derived.Test.YtlbbcgjfkpnilaaNandI
set_option linter.unusedVariables false
set_option linter.unusedSectionVars false
set_option linter.unusedSimpArgs false
namespace Go.Proofs.Ytlbbcgjfkpnilaa
open Go.Mx

def flipC (s : ChunkS) (i b : Int) : ChunkS := { s with now := upd s.now i (bitI .xor .u8 (s.now i) (shlI .u8 1 b)) }
def ChunkS.mark (s t : ChunkS) : ChunkS := { t with worst := maxI s.worst t.damage }
def ChipS.flip (σ : ChipS) (p b : Int) : ChipS := σ.put p (b / 512) ((σ.at_ p (b / 512)).mark (flipC (σ.at_ p (b / 512)) (b / 8 % 64) (b % 8)))
theorem nand_Flip_is (k : Nat) (hk : 64 < k) {m : Mem} {c : Nat} {σ : ChipS} (h : m[c]? = some (.live (chipC σ))) {p b : Int} (h0 : 0 ≤ p) (h1 : p < 96) (h2 : 0 ≤ b) (h3 : b < 2048) :
    nand_Chip_Flip k (some ⟨c, 0, none⟩) p b m = some (.nilIface, wr m c (chipC (σ.flip p b))) := by
  unfold nand_Chip_Flip
  have hq : IntKind.wrap .i64 (Int.tdiv (IntKind.wrap .i64 (Int.tdiv b 8)) 64) = b / 512 := by simp (disch := omega) only [Option.bind_some, Option.map_some, cond_true, cond_false, wrap_i64, tmod_pos, tdiv_pos, inRange_yes, inUpto_yes, isZero_no, decide_eq_true, decide_eq_false, Bool.not_true, Bool.not_false, Int.toNat_natCast, Nat.mul_one, beqI_yes, beqI_no, bneI_yes, bneI_no, isNil_nil, isNil_iface, wr_wr, Option.isNone_none, Option.isNone_some, plus, Nat.zero_add, Nat.add_zero]; omega
  have hp : isAt p (b / 512) := ⟨h0, h1, by omega, by omega⟩
  rw [hq, nand_at_is, if_pos hp]
  have e1 := chip_ldNow h hp (i := b / 8 % 64) (by omega) (by omega)
  have e2 := chip_stNow h hp (i := b / 8 % 64) (by omega) (by omega) (bitI .xor .u8 ((σ.at_ p (b / 512)).now (b / 8 % 64)) (shlI .u8 1 (b % 8)))
  have g1 := wr_get (cs := chipC (σ.put p (b / 512) (flipC (σ.at_ p (b / 512)) (b / 8 % 64) (b % 8)))) h
  have e3 := chip_ldWorst g1 hp
  have e4 := nand_damage_is k g1 hk hp
  have e5 := chip_stWorst g1 hp (maxI (σ.at_ p (b / 512)).worst (flipC (σ.at_ p (b / 512)) (b / 8 % 64) (b % 8)).damage)
  rw [put_at] at e3 e4
  rw [put_at, put_put, wr_wr] at e5
  have e3 : ldInt .i64 (wr m c (chipC (σ.put p (b / 512) (flipC (σ.at_ p (b / 512)) (b / 8 % 64) (b % 8))))) ⟨c, chA p (b / 512) + 129, none⟩ = some (σ.at_ p (b / 512)).worst := e3
  have e2 : st m ⟨c, chA p (b / 512) + (b / 8 % 64).toNat, none⟩ (.int .u8 (bitI .xor .u8 ((σ.at_ p (b / 512)).now (b / 8 % 64)) (shlI .u8 1 (b % 8)))) = some (wr m c (chipC (σ.put p (b / 512) (flipC (σ.at_ p (b / 512)) (b / 8 % 64) (b % 8))))) := e2
  simp (disch := omega) only [Option.bind_some, Option.map_some, cond_true, cond_false, wrap_i64, tmod_pos, tdiv_pos, inRange_yes, inUpto_yes, isZero_no, decide_eq_true, decide_eq_false, Bool.not_true, Bool.not_false, Int.toNat_natCast, Nat.mul_one, beqI_yes, beqI_no, bneI_yes, bneI_no, isNil_nil, isNil_iface, wr_wr, Option.isNone_none, Option.isNone_some, plus, Nat.zero_add, Nat.add_zero, e1, e2, e3, e4, e5, beq_self_eq_true]
  rfl
theorem write_O (k : Nat) {m : Mem} {c d : Nat} {σ : ChipS} {f : Int → Int} {F : Heap} (hO : Mx.Own m ((c, .live (chipC σ)) :: (d, .live (arr .u8 64 f)) :: F)) (hs : 0 ≤ σ.steps ∧ σ.steps < 4611686018427387904) (hb : 0 ≤ σ.budget ∧ σ.budget < 9223372036854775808) (hw : ∀ x, 0 ≤ (σ.b x).before ∧ (σ.b x).before < 9223372036854775808) (p q : Int) {cc : Nat} :
    nand_Chip_Write k (some ⟨c, 0, none⟩) p q (some ⟨d, 0, none⟩) 64 cc m = some (errC (σ.write p q 64 f).1, wr m c (chipC (σ.write p q 64 f).2)) :=
  nand_Write_is k (hO.at 0 rfl) hs hb hw p q fun _ τ => rdSl_all (n := 64) (z := 1) ((hO.wr 0 rfl (chipC τ)).at 1 rfl) (by simp)
theorem write_plain {σ : ChipS} {p q : Int} {f : Int → Int} (hp : isAt p q) (h1 : (σ.b (p / 8)).before = 0) (h2 : (σ.b (p / 8)).failed = false) :
    σ.write p q 64 f = if σ.off = true then (7, σ) else if (σ.at_ p q).is = true then (9, σ) else if σ.step.1 ≠ 0 then σ.step else (0, σ.step.2.put p q ⟨f, f, true, 0⟩) := by
  unfold ChipS.write
  have hw : (σ.step.2.b (p / 8)).worn = σ.step.2.b (p / 8) := by
    unfold BlockS.worn; rw [step_b, h1]; rfl
  rw [if_neg (not_not_intro hp), if_neg (by simp), hw, updB_self, step_b, h2]
  simp

theorem shown_ok (k : Nat) (hk : 200 < k) {m : Mem} {F : Heap} (hO : Mx.Own m F) : Ok (patinalaw05_shown k m) fun r => r.1 = true ∧ Mx.Own r.2 F := by
  unfold patinalaw05_shown
  refine .bind (chipNew_ok k (by omega) hO) ?_
  rintro ⟨_, m1⟩ ⟨c, rfl, h1⟩
  simp (disch := omega) only [Option.bind_some, Option.map_some, cond_true, cond_false, wrap_i64, tmod_pos, tdiv_pos, inRange_yes, inUpto_yes, isZero_no, decide_eq_true, decide_eq_false, Bool.not_true, Bool.not_false, Int.toNat_natCast, Nat.mul_one, beqI_yes, beqI_no, bneI_yes, bneI_no, isNil_nil, isNil_iface, wr_wr, Option.isNone_none, Option.isNone_some, plus, Nat.zero_add, Nat.add_zero]
  refine .bind (chipRead_ok k (by omega) h1 (p := 0) (by omega) (by omega) rfl (by decide)) ?_
  rintro ⟨_, _, m2⟩ ⟨d, rfl, rfl, h2⟩
  simp only at h2
  simp (disch := omega) only [Option.bind_some, Option.map_some, cond_true, cond_false, wrap_i64, tmod_pos, tdiv_pos, inRange_yes, inUpto_yes, isZero_no, decide_eq_true, decide_eq_false, Bool.not_true, Bool.not_false, Int.toNat_natCast, Nat.mul_one, beqI_yes, beqI_no, bneI_yes, bneI_no, isNil_nil, isNil_iface, wr_wr, Option.isNone_none, Option.isNone_some, plus, Nat.zero_add, Nat.add_zero]
  refine .bind (some_ok k (by omega) h2 7) ?_
  rintro ⟨_, m3⟩ ⟨s, rfl, h3⟩
  simp only at h3
  have h3' := h3.pick [2, 0, 1] 3 (by decide)
  simp only [pickL, List.filterMap, List.getElem?_cons_zero, List.getElem?_cons_succ, List.drop_succ_cons, List.drop_zero, List.cons_append, List.nil_append] at h3'
  have hp : isAt 0 3 := by unfold isAt; omega
  have ew := write_O k h3' (by decide) (by decide) (fun x => by
    unfold ChipS.readd ChipS.updB upd fresh fblock
    simp only
    split <;> simp) 0 3 (cc := 64)
  rw [write_plain hp (by rfl) (by rfl)] at ew
  have ew' : nand_Chip_Write k (some ⟨c, 0, none⟩) 0 3 (some ⟨s, 0, none⟩) 64 64 m3 = some (.nilIface, wr m3 c (chipC ((fresh.readd 0).step.2.put 0 3 ⟨fun _ => 7, fun _ => 7, true, 0⟩))) := ew
  simp (disch := omega) only [Option.bind_some, Option.map_some, cond_true, cond_false, wrap_i64, tmod_pos, tdiv_pos, inRange_yes, inUpto_yes, isZero_no, decide_eq_true, decide_eq_false, Bool.not_true, Bool.not_false, Int.toNat_natCast, Nat.mul_one, beqI_yes, beqI_no, bneI_yes, bneI_no, isNil_nil, isNil_iface, wr_wr, Option.isNone_none, Option.isNone_some, plus, Nat.zero_add, Nat.add_zero, ew']
  have h4 := h3'.wr 0 rfl (chipC ((fresh.readd 0).step.2.put 0 3 ⟨fun _ => 7, fun _ => 7, true, 0⟩))
  simp only [List.set_cons_zero] at h4
  obtain ⟨σ4, hσ4⟩ : ∃ σ, (fresh.readd 0).step.2.put 0 3 ⟨fun _ => 7, fun _ => 7, true, 0⟩ = σ := ⟨_, rfl⟩
  have a1 : σ4.off = false := by rw [← hσ4]; rfl
  have a2 : σ4.steps = 1 := by rw [← hσ4]; rfl
  have a3 : σ4.budget = 0 := by rw [← hσ4]; rfl
  have a4 : ∀ x, (σ4.b x).before = 0 ∧ (σ4.b x).failed = false ∧ 0 ≤ (σ4.b x).reads ∧ (σ4.b x).reads ≤ 1 := by
    intro x
    rw [← hσ4]
    unfold ChipS.put ChipS.updB upd
    simp only [step_b]
    unfold ChipS.readd ChipS.updB upd fresh fblock BlockS.updC
    simp only
    repeat' split
    all_goals simp
  have a5 : σ4.at_ 0 3 = ⟨fun _ => 7, fun _ => 7, true, 0⟩ := by rw [← hσ4, put_at]
  rw [hσ4] at h4 ⊢
  clear hσ4 ew ew' h3 h3' h2 h1
  have ef := nand_Flip_is k (by omega) (h4.at 0 rfl) (p := 0) (b := 1536) (by omega) (by omega) (by omega) (by omega)
  have h5 := h4.wr 0 rfl (chipC (σ4.flip 0 1536))
  rw [wr_wr] at ef h5
  simp only [List.set_cons_zero] at h5
  obtain ⟨σ5, hσ5⟩ : ∃ σ, σ4.flip 0 1536 = σ := ⟨_, rfl⟩
  have c5 : σ5.at_ 0 3 = (σ4.at_ 0 3).mark (flipC (σ4.at_ 0 3) 0 0) := by rw [← hσ5]; unfold ChipS.flip; exact put_at _ _ _ _
  rw [a5] at c5
  have b1 : σ5.off = false := by rw [← hσ5]; exact a1
  have b2 : σ5.steps = 1 := by rw [← hσ5]; exact a2
  have b3 : σ5.budget = 0 := by rw [← hσ5]; exact a3
  have b4 : ∀ x, (σ5.b x).before = 0 ∧ (σ5.b x).failed = false ∧ 0 ≤ (σ5.b x).reads ∧ (σ5.b x).reads ≤ 1 := by
    intro x
    rw [← hσ5]
    unfold ChipS.flip ChipS.put ChipS.updB upd BlockS.updC
    simp only
    split
    · exact a4 _
    · exact a4 x
  rw [hσ5] at ef h5
  simp (disch := omega) only [Option.bind_some, Option.map_some, cond_true, cond_false, wrap_i64, tmod_pos, tdiv_pos, inRange_yes, inUpto_yes, isZero_no, decide_eq_true, decide_eq_false, Bool.not_true, Bool.not_false, Int.toNat_natCast, Nat.mul_one, beqI_yes, beqI_no, bneI_yes, bneI_no, isNil_nil, isNil_iface, wr_wr, Option.isNone_none, Option.isNone_some, plus, Nat.zero_add, Nat.add_zero, ef]
  clear ef hσ5 h4
  have r5 := b4 (0 / 8)
  refine .bind (chipRead_ok k (by omega) h5 (p := 0) (by omega) (by omega) b1 (by omega)) ?_
  rintro ⟨_, _, m6⟩ ⟨d2, rfl, rfl, h6⟩
  simp only at h6
  have ed := nand_Damage_is k (h6.at 1 rfl) (by omega) 0 3
  rw [if_pos hp, readd_at, c5] at ed
  have w1 : (ChunkS.mark ⟨fun _ => 7, fun _ => 7, true, 0⟩ (flipC ⟨fun _ => 7, fun _ => 7, true, 0⟩ 0 0)).damage = 1 := by decide +kernel
  have w2 : (ChunkS.mark ⟨fun _ => 7, fun _ => 7, true, 0⟩ (flipC ⟨fun _ => 7, fun _ => 7, true, 0⟩ 0 0)).worst = 1 := by decide +kernel
  have w3 : (ChunkS.mark ⟨fun _ => 7, fun _ => 7, true, 0⟩ (flipC ⟨fun _ => 7, fun _ => 7, true, 0⟩ 0 0)).now 0 = 6 := by decide +kernel
  rw [w1, w2] at ed
  have l1 := arr_ldn (sp := none) (i := 0) (h6.at 3 rfl) (by omega)
  have l2 := arr_ldn (sp := none) (i := 192) (h6.at 0 rfl) (by omega)
  have v1 : fresh.page 0 ((0 : Nat) : Int) = 255 := rfl
  have v2 : σ5.page 0 ((192 : Nat) : Int) = 6 := by
    show (σ5.at_ 0 3).now 0 = 6
    rw [c5, w3]
  rw [v1] at l1
  rw [v2] at l2
  have t0 : Int.toNat 0 = 0 := rfl
  have t192 : Int.toNat 192 = 192 := rfl
  have c256 : ((256 : Nat) : Int) = 256 := rfl
  simp (disch := omega) only [Option.bind_some, Option.map_some, cond_true, cond_false, wrap_i64, tmod_pos, tdiv_pos, inRange_yes, inUpto_yes, isZero_no, decide_eq_true, decide_eq_false, Bool.not_true, Bool.not_false, Int.toNat_natCast, Nat.mul_one, beqI_yes, beqI_no, bneI_yes, bneI_no, isNil_nil, isNil_iface, wr_wr, Option.isNone_none, Option.isNone_some, plus, Nat.zero_add, Nat.add_zero, ed, c256, t0, t192, l1, l2]
  refine .bind (some_ok k (by omega) h6 7) ?_
  rintro ⟨_, m7⟩ ⟨s2, rfl, h7⟩
  simp only at h7
  have h7' := h7.pick [2, 0, 1, 3, 4] 5 (by decide)
  simp only [pickL, List.filterMap, List.getElem?_cons_zero, List.getElem?_cons_succ, List.drop_succ_cons, List.drop_zero, List.cons_append, List.nil_append] at h7'
  have q1 : (σ5.readd 0).steps = 1 := b2
  have q2 : (σ5.readd 0).budget = 0 := b3
  have q4 : ∀ x, ((σ5.readd 0).b x).before = 0 ∧ ((σ5.readd 0).b x).failed = false := by
    intro x
    unfold ChipS.readd ChipS.updB upd
    simp only
    split
    · exact ⟨(b4 _).1, (b4 _).2.1⟩
    · exact ⟨(b4 x).1, (b4 x).2.1⟩
  have ew := write_O k h7' (by omega) (by omega) (fun x => by have := (q4 x).1; omega) 0 3 (cc := 64)
  have q5 : (σ5.readd 0).off = false := b1
  have q6 : ((σ5.readd 0).at_ 0 3).is = true := by rw [readd_at, c5]; rfl
  rw [write_plain hp (q4 _).1 (q4 _).2, q5, q6, if_neg (by simp), if_pos rfl] at ew
  have e9 : errC 9 = .iface ty_api_Code (.int .i64 9) := rfl
  rw [e9] at ew
  simp (disch := omega) only [Option.bind_some, Option.map_some, cond_true, cond_false, wrap_i64, tmod_pos, tdiv_pos, inRange_yes, inUpto_yes, isZero_no, decide_eq_true, decide_eq_false, Bool.not_true, Bool.not_false, Int.toNat_natCast, Nat.mul_one, beqI_yes, beqI_no, bneI_yes, bneI_no, isNil_nil, isNil_iface, wr_wr, Option.isNone_none, Option.isNone_some, plus, Nat.zero_add, Nat.add_zero, ew, beq_self_eq_true, ifEq_code]
  have h8 := h7'.wr 0 rfl (chipC (σ5.readd 0))
  exact .some ⟨rfl, h8.tail.tail.tail.tail.tail⟩
end Go.Proofs.Ytlbbcgjfkpnilaa
