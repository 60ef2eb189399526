/- The document's chip: what is asked of it, steps, harm. -/
import Derived.Test.YtlbbcgjfkpnilaaNref
set_option linter.unusedVariables false
set_option linter.unusedSectionVars false
set_option linter.unusedSimpArgs false
namespace Go.Proofs.Ytlbbcgjfkpnilaa
open Go.Mx

/-- bytes, told by whole numbers -/
def Byt (f : Int → Int) : Prop := ∃ w : Nat → GF, ∀ i : Int, 0 ≤ i → f i = byI w i
theorem Byt.bys {f : Int → Int} (h : Byt f) (n : Nat) : ∃ w : Nat → GF, arr .u8 n f = bys n w ∧ ∀ i : Nat, f i = ((w i).v : Int) := by
  obtain ⟨w, hw⟩ := h
  exact ⟨w, arr_congr fun i h0 _ => hw i h0, fun i => by rw [hw _ (by omega)]; rfl⟩
theorem Byt.const {v : Int} (h0 : 0 ≤ v) (h1 : v < 256) : Byt fun _ => v := ⟨fun _ => GF.of v.toNat, fun i _ => by show v = _; unfold byI; rw [GF.v_of (by omega)]; omega⟩
theorem Byt.upd {f : Int → Int} (h : Byt f) {x v : Int} (hx : 0 ≤ x) (h0 : 0 ≤ v) (h1 : v < 256) : Byt (upd f x v) := by
  obtain ⟨w, hw⟩ := h
  refine ⟨put w x.toNat (GF.of v.toNat), fun i hi => ?_⟩
  unfold byI put Mx.upd
  by_cases he : i = x
  · subst he; rw [if_pos rfl, if_pos rfl, GF.v_of (by omega)]; omega
  · rw [if_neg he, if_neg (by omega), hw i hi]; rfl
theorem Byt.ofW (w : Nat → GF) : Byt (byI w) := ⟨w, fun _ _ => rfl⟩
theorem xor_byte (a b : Int) : 0 ≤ bitI .xor .u8 a b ∧ bitI .xor .u8 a b < 256 := by
  unfold bitI
  simp only [IntKind.wrap, IntKind.bits, IntKind.signed, Bool.false_and, Bool.false_eq_true, if_false]
  omega

/-- a chip with which so much was done at most -/
structure Wf (n : Nat) (σ : ChipS) : Prop where
  steps : 0 ≤ σ.steps ∧ σ.steps ≤ n
  bud : 0 ≤ σ.budget ∧ σ.budget < 9223372036854775808
  rd : ∀ x, 0 ≤ (σ.b x).reads ∧ (σ.b x).reads ≤ n
  bf : ∀ x, 0 ≤ (σ.b x).before ∧ (σ.b x).before < 9223372036854775808
  by_ : ∀ x j, Byt ((σ.b x).ch j).now ∧ Byt ((σ.b x).ch j).tru
  ws : ∀ x j, ((σ.b x).ch j).damage ≤ ((σ.b x).ch j).worst ∧ ((σ.b x).ch j).worst ≤ 64

/-- labels stay, new ones are of new objects, and but for what is labelled nothing changes -/
structure Lx (m m' : Mem) (lab lab' : Nat → Option Lab) : Prop where
  ch : Ch (fun p => lab p ≠ none) m m'
  same : ∀ p, lab p ≠ none → lab' p = lab p
  new : ∀ p, lab' p ≠ none → lab p ≠ none ∨ m.length ≤ p
theorem Lx.refl (m : Mem) (lab : Nat → Option Lab) : Lx m m lab lab := ⟨.refl _ _, fun _ _ => rfl, fun _ h => .inl h⟩
theorem Lx.of {m m' : Mem} {lab : Nat → Option Lab} (h : Ch (fun p => lab p ≠ none) m m') : Lx m m' lab lab := ⟨h, fun _ _ => rfl, fun _ h => .inl h⟩
theorem Lx.trans {m m' m'' : Mem} {lab lab' lab'' : Nat → Option Lab} (h : Lx m m' lab lab') (h' : Lx m' m'' lab' lab'') : Lx m m'' lab lab'' :=
  ⟨h.ch.more h'.ch fun p hp hl => by rcases h.new p hl with h1 | h1; · exact h1
                                     · omega,
   fun p hp => by rw [h'.same p (by rw [h.same p hp]; exact hp), h.same p hp],
   fun p hp => by rcases h'.new p hp with h1 | h1
                  · exact h.new p h1
                  · right; have := h.ch.len; omega⟩

section
variable {m : Mem} {r : Nat} {lab : Nat → Option Lab} {g : RG} {σ : ChipS} (h : RefX m r lab g σ)
include h
theorem RefX.chHead (cs : List Value) : Ch (fun p => lab p ≠ none) m (wr m r cs) := (Ch.refl _ m).wr (.inl (by rw [h.lr]; simp)) cs
theorem RefX.chBlk (cs : List Value) : Ch (fun p => lab p ≠ none) m (wr m g.q cs) := (Ch.refl _ m).wr (.inl (by rw [h.lq]; simp)) cs

/-- a cell of a block is written -/
theorem RefX.setB {x : Int} (h0 : 0 ≤ x) (h1 : x < 12) {y : Nat} (hy : y < 5) {v : Value} (a' : Int) (β' : BlockS) (e : (rblk (g.L x) (g.A x) (σ.b x)).set y v = rblk (g.L x) a' β') (hc : β'.ch = (σ.b x).ch) (ha : AtOk σ.steps a' β'.before) :
    ∃ m', st m ⟨g.q, x.toNat * 5 + y, some 5⟩ v = some m' ∧ RefX m' r lab { g with A := upd g.A x a' } (σ.updB x β') ∧ Ch (fun p => lab p ≠ none) m m' := by
  refine ⟨_, h.stB h0 h1 hy e, ?_, h.chBlk _⟩
  rw [upd_self]
  exact h.blk hc fun _ _ => ha

theorem refStep_is (k : Nat) (hs : 0 ≤ σ.steps ∧ σ.steps < 4611686018427387904) (hb : 0 ≤ σ.budget ∧ σ.budget < 9223372036854775808) :
    patinaref05_Chip_step k (some ⟨r, 0, none⟩) m = some (decide (σ.step.1 = 0), wr m r (rhead g.q σ.step.2)) ∧ RefX (wr m r (rhead g.q σ.step.2)) r lab g σ.step.2 := by
  refine ⟨?_, h.head (step_b σ) ?_⟩
  · unfold patinaref05_Chip_step patinaref05_Chip_step_j1
    by_cases hc : σ.cut = true
    · have hbr : budR σ = σ.budget := by unfold budR; rw [if_pos hc]
      by_cases h0 : σ.budget = 0
      · have e1 : σ.step = (7, { σ with off := true }) := by unfold ChipS.step; rw [if_pos hc, if_pos h0]
        have e2 := st_wr (sp := none) (off := 1) (v := .bool false) h.chip (by simp [rhead])
        have e3 : (rhead g.q σ).set 1 (.bool false) = rhead g.q { σ with off := true } := rfl
        rw [e3] at e2
        have z : (σ.budget == 0) = true := by simp [h0]
        simp (disch := omega) only [Option.bind_some, Option.map_some, cond_true, cond_false, wrap_i64, tmod_pos, tdiv_pos, inRange_yes, inUpto_yes, isZero_no, decide_eq_true, decide_eq_false, Bool.not_true, Bool.not_false, Int.toNat_natCast, Nat.mul_one, beqI_yes, beqI_no, bneI_yes, bneI_no, isNil_nil, isNil_iface, wr_wr, Option.isNone_none, Option.isNone_some, plus, Nat.zero_add, Nat.add_zero, h.ldBud, hbr, z, e2, e1]
        try rfl
      · have e1 : σ.step = (0, { σ with budget := σ.budget - 1, steps := σ.steps + 1 }) := by unfold ChipS.step; rw [if_pos hc, if_neg h0]
        have z : (σ.budget == 0) = false := by simp [h0]
        have e2 := st_wr (sp := none) (off := 2) (v := .int .i64 (σ.budget - 1)) h.chip (by simp [rhead])
        have e3 : (rhead g.q σ).set 2 (.int .i64 (σ.budget - 1)) = rhead g.q { σ with budget := σ.budget - 1 } := by
          unfold rhead budR; simp [hc]
        rw [e3] at e2
        have g1 := wr_get (cs := rhead g.q { σ with budget := σ.budget - 1 }) h.chip
        have e4 : ldInt .i64 (wr m r (rhead g.q { σ with budget := σ.budget - 1 })) ⟨r, 3, none⟩ = some σ.steps := ldInt_of g1 rfl
        have e5 := st_wr (sp := none) (off := 3) (v := .int .i64 (σ.steps + 1)) g1 (by simp [rhead])
        have e6 : (rhead g.q { σ with budget := σ.budget - 1 }).set 3 (.int .i64 (σ.steps + 1)) = rhead g.q { σ with budget := σ.budget - 1, steps := σ.steps + 1 } := rfl
        rw [e6] at e5
        simp (disch := omega) only [Option.bind_some, Option.map_some, cond_true, cond_false, wrap_i64, tmod_pos, tdiv_pos, inRange_yes, inUpto_yes, isZero_no, decide_eq_true, decide_eq_false, Bool.not_true, Bool.not_false, Int.toNat_natCast, Nat.mul_one, beqI_yes, beqI_no, bneI_yes, bneI_no, isNil_nil, isNil_iface, wr_wr, Option.isNone_none, Option.isNone_some, plus, Nat.zero_add, Nat.add_zero, h.ldBud, hbr, z, e2, e4, e5, e1]
        simp
    · have hbr : budR σ = -1 := by unfold budR; rw [if_neg hc]
      have e1 : σ.step = (0, { σ with steps := σ.steps + 1 }) := by unfold ChipS.step; rw [if_neg hc]
      have z : ((-1 : Int) == 0) = false := rfl
      have z2 : decide ((-1 : Int) > 0) = false := rfl
      have e5 := st_wr (sp := none) (off := 3) (v := .int .i64 (σ.steps + 1)) h.chip (by simp [rhead])
      have e6 : (rhead g.q σ).set 3 (.int .i64 (σ.steps + 1)) = rhead g.q { σ with steps := σ.steps + 1 } := rfl
      rw [e6] at e5
      simp (disch := omega) only [Option.bind_some, Option.map_some, cond_true, cond_false, wrap_i64, tmod_pos, tdiv_pos, inRange_yes, inUpto_yes, isZero_no, decide_eq_true, decide_eq_false, Bool.not_true, Bool.not_false, Int.toNat_natCast, Nat.mul_one, beqI_yes, beqI_no, bneI_yes, bneI_no, isNil_nil, isNil_iface, wr_wr, Option.isNone_none, Option.isNone_some, plus, Nat.zero_add, Nat.add_zero, h.ldBud, hbr, z, z2, h.ldSteps, e5, e1]
      simp
  · unfold ChipS.step
    split
    · split
      · exact Int.le_refl _
      · simp; omega
    · simp; omega

theorem refCut_is (k : Nat) (n : Int) : ∃ m', patinaref05_Chip_Cut k (some ⟨r, 0, none⟩) n m = some (if n < 0 then 1 else 0, m') ∧ RefX m' r lab g (if n < 0 then σ else if σ.off = true then σ else { σ with cut := true, budget := n }) ∧ Ch (fun p => lab p ≠ none) m m' := by
  unfold patinaref05_Chip_Cut patinaref05_Chip_Cut_j1
  by_cases hn : n < 0
  · refine ⟨m, ?_, ?_, .refl _ _⟩
    · simp (disch := omega) only [Option.bind_some, Option.map_some, cond_true, cond_false, wrap_i64, tmod_pos, tdiv_pos, inRange_yes, inUpto_yes, isZero_no, decide_eq_true, decide_eq_false, Bool.not_true, Bool.not_false, Int.toNat_natCast, Nat.mul_one, beqI_yes, beqI_no, bneI_yes, bneI_no, isNil_nil, isNil_iface, wr_wr, Option.isNone_none, Option.isNone_some, plus, Nat.zero_add, Nat.add_zero, if_pos hn]
    · rw [if_pos hn]; exact h
  · cases ho : σ.off with
    | true =>
      refine ⟨m, ?_, ?_, .refl _ _⟩
      · simp (disch := omega) only [Option.bind_some, Option.map_some, cond_true, cond_false, wrap_i64, tmod_pos, tdiv_pos, inRange_yes, inUpto_yes, isZero_no, decide_eq_true, decide_eq_false, Bool.not_true, Bool.not_false, Int.toNat_natCast, Nat.mul_one, beqI_yes, beqI_no, bneI_yes, bneI_no, isNil_nil, isNil_iface, wr_wr, Option.isNone_none, Option.isNone_some, plus, Nat.zero_add, Nat.add_zero, h.ldOn, ho, if_neg hn]
      · rw [if_neg hn, if_pos rfl]; exact h
    | false =>
      have e2 := st_wr (sp := none) (off := 2) (v := .int .i64 n) h.chip (by simp [rhead])
      have e3 : (rhead g.q σ).set 2 (.int .i64 n) = rhead g.q { σ with cut := true, budget := n } := rfl
      rw [e3] at e2
      refine ⟨wr m r (rhead g.q { σ with cut := true, budget := n }), ?_, ?_, h.chHead _⟩
      · simp (disch := omega) only [Option.bind_some, Option.map_some, cond_true, cond_false, wrap_i64, tmod_pos, tdiv_pos, inRange_yes, inUpto_yes, isZero_no, decide_eq_true, decide_eq_false, Bool.not_true, Bool.not_false, Int.toNat_natCast, Nat.mul_one, beqI_yes, beqI_no, bneI_yes, bneI_no, isNil_nil, isNil_iface, wr_wr, Option.isNone_none, Option.isNone_some, plus, Nat.zero_add, Nat.add_zero, h.ldOn, ho, e2, if_neg hn]
      · rw [if_neg hn, if_neg (by simp)]; have z := h.head (τ := { σ with cut := true, budget := n }) rfl (Int.le_refl _); simp only [ho] at z ⊢; exact z
theorem refAgain_is (k : Nat) : ∃ m', patinaref05_Chip_Again k (some ⟨r, 0, none⟩) m = some m' ∧ RefX m' r lab g { σ with off := false, cut := false, budget := 0 } ∧ Ch (fun p => lab p ≠ none) m m' := by
  unfold patinaref05_Chip_Again
  have e1 := st_wr (sp := none) (off := 1) (v := .bool true) h.chip (by simp [rhead])
  have e2 := st_wr (sp := none) (off := 2) (v := .int .i64 (-1)) (wr_get (cs := (rhead g.q σ).set 1 (.bool true)) h.chip) (by simp [rhead])
  have e3 : ((rhead g.q σ).set 1 (.bool true)).set 2 (.int .i64 (-1)) = rhead g.q { σ with off := false, cut := false, budget := 0 } := rfl
  rw [e3, wr_wr] at e2
  refine ⟨wr m r (rhead g.q { σ with off := false, cut := false, budget := 0 }), ?_, h.head (τ := { σ with off := false, cut := false, budget := 0 }) rfl (Int.le_refl _), h.chHead _⟩
  simp (disch := omega) only [Option.bind_some, Option.map_some, cond_true, cond_false, wrap_i64, tmod_pos, tdiv_pos, inRange_yes, inUpto_yes, isZero_no, decide_eq_true, decide_eq_false, Bool.not_true, Bool.not_false, Int.toNat_natCast, Nat.mul_one, beqI_yes, beqI_no, bneI_yes, bneI_no, isNil_nil, isNil_iface, wr_wr, Option.isNone_none, Option.isNone_some, plus, Nat.zero_add, Nat.add_zero, e1, e2]
theorem refFailErase_is (k : Nat) (x : Int) : ∃ m' g', patinaref05_Chip_FailErase k (some ⟨r, 0, none⟩) x m = some (if 0 ≤ x ∧ x < 12 then 0 else 1, m') ∧ RefX m' r lab g' (if 0 ≤ x ∧ x < 12 then σ.updB x { σ.b x with atErase := true } else σ) ∧ Ch (fun p => lab p ≠ none) m m' := by
  unfold patinaref05_Chip_FailErase
  rw [refIsBlock_is]
  by_cases hx : 0 ≤ x ∧ x < 12
  · obtain ⟨m', e1, e2, e3⟩ := h.setB hx.1 hx.2 (y := 4) (by omega) (v := .bool true) (g.A x) { σ.b x with atErase := true } rfl rfl (h.at_ x hx.1 hx.2)
    have i1 : inRange x 12 = true := inRange_yes hx.1 hx.2
    refine ⟨m', _, ?_, by rw [if_pos hx]; exact e2, e3⟩
    simp (disch := omega) only [Option.bind_some, Option.map_some, cond_true, cond_false, wrap_i64, tmod_pos, tdiv_pos, inRange_yes, inUpto_yes, isZero_no, decide_eq_true, decide_eq_false, Bool.not_true, Bool.not_false, Int.toNat_natCast, Nat.mul_one, beqI_yes, beqI_no, bneI_yes, bneI_no, isNil_nil, isNil_iface, wr_wr, Option.isNone_none, Option.isNone_some, plus, Nat.zero_add, Nat.add_zero, decide_eq_true hx, h.ldB, i1, e1, if_pos hx]
  · refine ⟨m, g, ?_, by rw [if_neg hx]; exact h, .refl _ _⟩
    simp (disch := omega) only [Option.bind_some, Option.map_some, cond_true, cond_false, wrap_i64, tmod_pos, tdiv_pos, inRange_yes, inUpto_yes, isZero_no, decide_eq_true, decide_eq_false, Bool.not_true, Bool.not_false, Int.toNat_natCast, Nat.mul_one, beqI_yes, beqI_no, bneI_yes, bneI_no, isNil_nil, isNil_iface, wr_wr, Option.isNone_none, Option.isNone_some, plus, Nat.zero_add, Nat.add_zero, decide_eq_false hx, if_neg hx]
theorem refFailProgram_is (k : Nat) (x n : Int) (hn : n < 9223372036854775808) (hs : 0 ≤ σ.steps) : ∃ m' g', patinaref05_Chip_FailProgram k (some ⟨r, 0, none⟩) x n m = some (if 0 ≤ x ∧ x < 12 ∧ 0 ≤ n then 0 else 1, m') ∧
    RefX m' r lab g' (if 0 ≤ x ∧ x < 12 ∧ 0 ≤ n then σ.updB x { σ.b x with before := (if n ≤ 9223372036854775806 then n else 9223372036854775806) + 1 } else σ) ∧ Ch (fun p => lab p ≠ none) m m' := by
  unfold patinaref05_Chip_FailProgram
  rw [refIsBlock_is]
  by_cases hx : 0 ≤ x ∧ x < 12
  · by_cases h0 : n < 0
    · have hh : ¬ (0 ≤ x ∧ x < 12 ∧ 0 ≤ n) := by omega
      refine ⟨m, g, ?_, by rw [if_neg hh]; exact h, .refl _ _⟩
      simp (disch := omega) only [Option.bind_some, Option.map_some, cond_true, cond_false, wrap_i64, tmod_pos, tdiv_pos, inRange_yes, inUpto_yes, isZero_no, decide_eq_true, decide_eq_false, Bool.not_true, Bool.not_false, Int.toNat_natCast, Nat.mul_one, beqI_yes, beqI_no, bneI_yes, bneI_no, isNil_nil, isNil_iface, wr_wr, Option.isNone_none, Option.isNone_some, plus, Nat.zero_add, Nat.add_zero, decide_eq_true hx, if_neg hh]
    · have hh : 0 ≤ x ∧ x < 12 ∧ 0 ≤ n := by omega
      obtain ⟨m', e1, e2, e3⟩ := h.setB hx.1 hx.2 (y := 3) (by omega) (v := .int .i64 n) n { σ.b x with before := (if n ≤ 9223372036854775806 then n else 9223372036854775806) + 1 } rfl rfl (by
        refine ⟨?_, by omega, by omega⟩
        simp only
        split
        · left; rfl
        · right; constructor <;> omega)
      have i1 : inRange x 12 = true := inRange_yes hx.1 hx.2
      refine ⟨m', _, ?_, by rw [if_pos hh]; exact e2, e3⟩
      simp (disch := omega) only [Option.bind_some, Option.map_some, cond_true, cond_false, wrap_i64, tmod_pos, tdiv_pos, inRange_yes, inUpto_yes, isZero_no, decide_eq_true, decide_eq_false, Bool.not_true, Bool.not_false, Int.toNat_natCast, Nat.mul_one, beqI_yes, beqI_no, bneI_yes, bneI_no, isNil_nil, isNil_iface, wr_wr, Option.isNone_none, Option.isNone_some, plus, Nat.zero_add, Nat.add_zero, decide_eq_true hx, h.ldB, i1, e1, if_pos hh]
  · have hh : ¬ (0 ≤ x ∧ x < 12 ∧ 0 ≤ n) := by omega
    refine ⟨m, g, ?_, by rw [if_neg hh]; exact h, .refl _ _⟩
    simp (disch := omega) only [Option.bind_some, Option.map_some, cond_true, cond_false, wrap_i64, tmod_pos, tdiv_pos, inRange_yes, inUpto_yes, isZero_no, decide_eq_true, decide_eq_false, Bool.not_true, Bool.not_false, Int.toNat_natCast, Nat.mul_one, beqI_yes, beqI_no, bneI_yes, bneI_no, isNil_nil, isNil_iface, wr_wr, Option.isNone_none, Option.isNone_some, plus, Nat.zero_add, Nat.add_zero, decide_eq_false hx, if_neg hh]
theorem refReads_is (k : Nat) (x : Int) : patinaref05_Chip_Reads k (some ⟨r, 0, none⟩) x m = some (if 0 ≤ x ∧ x < 12 then ((σ.b x).reads, 0, m) else (0, 1, m)) := by
  unfold patinaref05_Chip_Reads
  rw [refIsBlock_is]
  by_cases hx : 0 ≤ x ∧ x < 12
  · have i1 : inRange x 12 = true := inRange_yes hx.1 hx.2
    simp (disch := omega) only [Option.bind_some, Option.map_some, cond_true, cond_false, wrap_i64, tmod_pos, tdiv_pos, inRange_yes, inUpto_yes, isZero_no, decide_eq_true, decide_eq_false, Bool.not_true, Bool.not_false, Int.toNat_natCast, Nat.mul_one, beqI_yes, beqI_no, bneI_yes, bneI_no, isNil_nil, isNil_iface, wr_wr, Option.isNone_none, Option.isNone_some, plus, Nat.zero_add, Nat.add_zero, decide_eq_true hx, h.ldB, i1, h.ldReads hx.1 hx.2, if_pos hx]
  · simp (disch := omega) only [Option.bind_some, Option.map_some, cond_true, cond_false, wrap_i64, tmod_pos, tdiv_pos, inRange_yes, inUpto_yes, isZero_no, decide_eq_true, decide_eq_false, Bool.not_true, Bool.not_false, Int.toNat_natCast, Nat.mul_one, beqI_yes, beqI_no, bneI_yes, bneI_no, isNil_nil, isNil_iface, wr_wr, Option.isNone_none, Option.isNone_some, plus, Nat.zero_add, Nat.add_zero, decide_eq_false hx, if_neg hx]
theorem refFailed_is (k : Nat) (x : Int) : patinaref05_Chip_Failed k (some ⟨r, 0, none⟩) x m = some (if 0 ≤ x ∧ x < 12 then ((σ.b x).failed, 0, m) else (false, 1, m)) := by
  unfold patinaref05_Chip_Failed
  rw [refIsBlock_is]
  by_cases hx : 0 ≤ x ∧ x < 12
  · have i1 : inRange x 12 = true := inRange_yes hx.1 hx.2
    simp (disch := omega) only [Option.bind_some, Option.map_some, cond_true, cond_false, wrap_i64, tmod_pos, tdiv_pos, inRange_yes, inUpto_yes, isZero_no, decide_eq_true, decide_eq_false, Bool.not_true, Bool.not_false, Int.toNat_natCast, Nat.mul_one, beqI_yes, beqI_no, bneI_yes, bneI_no, isNil_nil, isNil_iface, wr_wr, Option.isNone_none, Option.isNone_some, plus, Nat.zero_add, Nat.add_zero, decide_eq_true hx, h.ldB, i1, h.ldFailed hx.1 hx.2, if_pos hx]
  · simp (disch := omega) only [Option.bind_some, Option.map_some, cond_true, cond_false, wrap_i64, tmod_pos, tdiv_pos, inRange_yes, inUpto_yes, isZero_no, decide_eq_true, decide_eq_false, Bool.not_true, Bool.not_false, Int.toNat_natCast, Nat.mul_one, beqI_yes, beqI_no, bneI_yes, bneI_no, isNil_nil, isNil_iface, wr_wr, Option.isNone_none, Option.isNone_some, plus, Nat.zero_add, Nat.add_zero, decide_eq_false hx, if_neg hx]
omit h in
/-- the damage of two rows -/
theorem refDmg_ok (k : Nat) (hk : 64 < k) {d o : Nat} {sp : Option Nat} {n t : Nat × Bool} {f u : Int → Int} (l0 : ldSl m ⟨d, o, sp⟩ = some ⟨rowA (some n), 64, 64⟩) (l1 : ldSl m ⟨d, o + 1, sp⟩ = some ⟨rowA (some t), 64, 64⟩)
    (hn : m[n.1]? = some (.live (arr .u8 64 f))) (ht : m[t.1]? = some (.live (arr .u8 64 u))) : patinaref05_Chunk_damage k (some ⟨d, o, sp⟩) m = some (cntNe f u 64, m) := by
  have key : Ok (patinaref05_Chunk_damage k (some ⟨d, o, sp⟩) m) fun r => r = (cntNe f u 64, m) := by
    unfold patinaref05_Chunk_damage
    refine patinaref05_Chunk_damage_l0_rule k _ (fun r x0 x3 x4 M => (some ⟨d, o, sp⟩ : Option Addr) = x0 ∧ m = M ∧ ∃ j : Nat, x4 = j ∧ j + r = 64 ∧ cntNe f u j = x3) ?_ k 64 _ _ _ _ hk ⟨rfl, rfl, 0, rfl, rfl, rfl⟩
    rintro r nx _ _ _ _ ⟨rfl, rfl, j, rfl, hr, rfl⟩ hnx
    unfold patinaref05_Chunk_damage_l0_b
    by_cases hj : (j : Int) < 64
    · rw [rowA_eq] at l0 l1
      have e1 := arr_ldn (sp := if n.2 then some 1 else none) hn (i := j) (by omega)
      have e2 := arr_ldn (sp := if t.2 then some 1 else none) ht (i := j) (by omega)
      have hc := cntNe_le f u j
      have i1 : inRange (j : Int) 64 = true := inRange_yes (by omega) (by omega)
      have nx' := hnx (r - 1) (some ⟨d, o, sp⟩) (cntNe f u (j + 1)) (j + 1) m (by omega) ⟨rfl, rfl, j + 1, by omega, by omega, rfl⟩
      rw [cntNe_succ] at nx'
      by_cases he : f j = u j
      · have hb : (f j != u j) = false := bneI_no he
        rw [if_neg (fun h => h he), Int.add_zero] at nx'
        simp (disch := omega) only [Option.bind_some, Option.map_some, cond_true, cond_false, wrap_i64, tmod_pos, tdiv_pos, inRange_yes, inUpto_yes, isZero_no, decide_eq_true, decide_eq_false, Bool.not_true, Bool.not_false, Int.toNat_natCast, Nat.mul_one, beqI_yes, beqI_no, bneI_yes, bneI_no, isNil_nil, isNil_iface, wr_wr, Option.isNone_none, Option.isNone_some, plus, Nat.zero_add, Nat.add_zero, l0, l1, i1, e1, e2, hb, patinaref05_Chunk_damage_j1]
        exact nx'
      · have hb : (f j != u j) = true := bneI_yes he
        rw [if_pos he] at nx'
        simp (disch := omega) only [Option.bind_some, Option.map_some, cond_true, cond_false, wrap_i64, tmod_pos, tdiv_pos, inRange_yes, inUpto_yes, isZero_no, decide_eq_true, decide_eq_false, Bool.not_true, Bool.not_false, Int.toNat_natCast, Nat.mul_one, beqI_yes, beqI_no, bneI_yes, bneI_no, isNil_nil, isNil_iface, wr_wr, Option.isNone_none, Option.isNone_some, plus, Nat.zero_add, Nat.add_zero, l0, l1, i1, e1, e2, hb, patinaref05_Chunk_damage_j1]
        exact nx'
    · obtain rfl : j = 64 := by omega
      simp (disch := omega) only [Option.bind_some, Option.map_some, cond_true, cond_false, wrap_i64, tmod_pos, tdiv_pos, inRange_yes, inUpto_yes, isZero_no, decide_eq_true, decide_eq_false, Bool.not_true, Bool.not_false, Int.toNat_natCast, Nat.mul_one, beqI_yes, beqI_no, bneI_yes, bneI_no, isNil_nil, isNil_iface, wr_wr, Option.isNone_none, Option.isNone_some, plus, Nat.zero_add, Nat.add_zero]
      exact .some rfl
  obtain ⟨r, h1, rfl⟩ := key
  exact h1
theorem refDamage_is (k : Nat) (hk : 64 < k) (p q : Int) : patinaref05_Chip_Damage k (some ⟨r, 0, none⟩) p q m = some (if isAt p q then ((σ.at_ p q).damage, (σ.at_ p q).worst, 0, m) else (0, 0, 1, m)) := by
  unfold patinaref05_Chip_Damage
  rw [refIsPage_is]
  by_cases hp : isAt p q
  · have hp' := hp
    obtain ⟨h0, h1, h2, h3⟩ := hp'
    have e1 := refDmg_ok (m := m) k hk (h.ldNow hp) (h.ldTru hp) (h.now_ hp) (h.tru_ hp)
    have z : ((σ.at_ p q).worst == (σ.at_ p q).worst) = true := by simp
    simp (disch := omega) only [Option.bind_some, Option.map_some, cond_true, cond_false, wrap_i64, tmod_pos, tdiv_pos, inRange_yes, inUpto_yes, isZero_no, decide_eq_true, decide_eq_false, Bool.not_true, Bool.not_false, Int.toNat_natCast, Nat.mul_one, beqI_yes, beqI_no, bneI_yes, bneI_no, isNil_nil, isNil_iface, wr_wr, Option.isNone_none, Option.isNone_some, plus, Nat.zero_add, Nat.add_zero, decide_eq_true (show 0 ≤ p ∧ p < 96 from ⟨h0, h1⟩), decide_eq_false (show ¬ q < 0 by omega), decide_eq_false (show ¬ q ≥ 4 by omega), refChunk_is h hp, e1, h.ldWorst hp, z, if_pos hp]
    rfl
  · rw [if_neg hp]
    by_cases h0 : 0 ≤ p ∧ p < 96
    · by_cases h1 : q < 0
      · simp (disch := omega) only [Option.bind_some, Option.map_some, cond_true, cond_false, wrap_i64, tmod_pos, tdiv_pos, inRange_yes, inUpto_yes, isZero_no, decide_eq_true, decide_eq_false, Bool.not_true, Bool.not_false, Int.toNat_natCast, Nat.mul_one, beqI_yes, beqI_no, bneI_yes, bneI_no, isNil_nil, isNil_iface, wr_wr, Option.isNone_none, Option.isNone_some, plus, Nat.zero_add, Nat.add_zero, decide_eq_true h0, decide_eq_true h1]
      · simp (disch := omega) only [Option.bind_some, Option.map_some, cond_true, cond_false, wrap_i64, tmod_pos, tdiv_pos, inRange_yes, inUpto_yes, isZero_no, decide_eq_true, decide_eq_false, Bool.not_true, Bool.not_false, Int.toNat_natCast, Nat.mul_one, beqI_yes, beqI_no, bneI_yes, bneI_no, isNil_nil, isNil_iface, wr_wr, Option.isNone_none, Option.isNone_some, plus, Nat.zero_add, Nat.add_zero, decide_eq_true h0, decide_eq_false h1, decide_eq_true (show q ≥ 4 by unfold isAt at hp; omega)]
    · simp (disch := omega) only [Option.bind_some, Option.map_some, cond_true, cond_false, wrap_i64, tmod_pos, tdiv_pos, inRange_yes, inUpto_yes, isZero_no, decide_eq_true, decide_eq_false, Bool.not_true, Bool.not_false, Int.toNat_natCast, Nat.mul_one, beqI_yes, beqI_no, bneI_yes, bneI_no, isNil_nil, isNil_iface, wr_wr, Option.isNone_none, Option.isNone_some, plus, Nat.zero_add, Nat.add_zero, decide_eq_false h0]
theorem refTruth_is (k : Nat) (p q : Int) : patinaref05_Chip_Truth k (some ⟨r, 0, none⟩) p q m = some (if isAt p q then (⟨rowA (some (g.T (p / 8) (p % 8 * 4 + q))), 64, 64⟩, (σ.at_ p q).is, 0, m) else (⟨none, 0, 0⟩, false, 1, m)) := by
  unfold patinaref05_Chip_Truth
  rw [refIsPage_is]
  by_cases hp : isAt p q
  · have hp' := hp
    obtain ⟨h0, h1, h2, h3⟩ := hp'
    simp (disch := omega) only [Option.bind_some, Option.map_some, cond_true, cond_false, wrap_i64, tmod_pos, tdiv_pos, inRange_yes, inUpto_yes, isZero_no, decide_eq_true, decide_eq_false, Bool.not_true, Bool.not_false, Int.toNat_natCast, Nat.mul_one, beqI_yes, beqI_no, bneI_yes, bneI_no, isNil_nil, isNil_iface, wr_wr, Option.isNone_none, Option.isNone_some, plus, Nat.zero_add, Nat.add_zero, decide_eq_true (show 0 ≤ p ∧ p < 96 from ⟨h0, h1⟩), decide_eq_false (show ¬ q < 0 by omega), decide_eq_false (show ¬ q ≥ 4 by omega), refChunk_is h hp, h.ldTru hp, h.ldIs hp, if_pos hp]
  · rw [if_neg hp]
    by_cases h0 : 0 ≤ p ∧ p < 96
    · by_cases h1 : q < 0
      · simp (disch := omega) only [Option.bind_some, Option.map_some, cond_true, cond_false, wrap_i64, tmod_pos, tdiv_pos, inRange_yes, inUpto_yes, isZero_no, decide_eq_true, decide_eq_false, Bool.not_true, Bool.not_false, Int.toNat_natCast, Nat.mul_one, beqI_yes, beqI_no, bneI_yes, bneI_no, isNil_nil, isNil_iface, wr_wr, Option.isNone_none, Option.isNone_some, plus, Nat.zero_add, Nat.add_zero, decide_eq_true h0, decide_eq_true h1]
      · simp (disch := omega) only [Option.bind_some, Option.map_some, cond_true, cond_false, wrap_i64, tmod_pos, tdiv_pos, inRange_yes, inUpto_yes, isZero_no, decide_eq_true, decide_eq_false, Bool.not_true, Bool.not_false, Int.toNat_natCast, Nat.mul_one, beqI_yes, beqI_no, bneI_yes, bneI_no, isNil_nil, isNil_iface, wr_wr, Option.isNone_none, Option.isNone_some, plus, Nat.zero_add, Nat.add_zero, decide_eq_true h0, decide_eq_false h1, decide_eq_true (show q ≥ 4 by unfold isAt at hp; omega)]
    · simp (disch := omega) only [Option.bind_some, Option.map_some, cond_true, cond_false, wrap_i64, tmod_pos, tdiv_pos, inRange_yes, inUpto_yes, isZero_no, decide_eq_true, decide_eq_false, Bool.not_true, Bool.not_false, Int.toNat_natCast, Nat.mul_one, beqI_yes, beqI_no, bneI_yes, bneI_no, isNil_nil, isNil_iface, wr_wr, Option.isNone_none, Option.isNone_some, plus, Nat.zero_add, Nat.add_zero, decide_eq_false h0]
end
end Go.Proofs.Ytlbbcgjfkpnilaa
