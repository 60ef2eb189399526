/- The plain law of NandCuts: a budget is just so many steps. -/
import Derived.Test.YtoljgolgecbcdaaNandJ
import Derived.Test.YtoljgolgecbcdaaFLNandCuts
set_option linter.unusedVariables false
set_option linter.unusedSectionVars false
set_option linter.unusedSimpArgs false
namespace Go.Proofs.Ytoljgolgecbcdaa
open Go.Mx

def Calm (σ : ChipS) (r : Int) : Prop := ∀ x, (σ.b x).before = 0 ∧ (σ.b x).failed = false ∧ (σ.b x).atErase = false ∧ 0 ≤ (σ.b x).reads ∧ (σ.b x).reads ≤ r
theorem Calm.of_b {σ τ : ChipS} {r : Int} (h : Calm σ r) (e : τ.b = σ.b) : Calm τ r := fun x => by rw [e]; exact h x
theorem Calm.put {σ : ChipS} {r : Int} (h : Calm σ r) (p q : Int) (s : ChunkS) : Calm (σ.put p q s) r := by
  intro x
  unfold ChipS.put ChipS.updB upd BlockS.updC
  simp only
  split
  · exact h _
  · exact h x
theorem Calm.readd {σ : ChipS} {r : Int} (h : Calm σ r) (p : Int) : Calm (σ.readd p) (r + 1) := by
  intro x
  unfold ChipS.readd ChipS.updB upd
  simp only
  split
  · have := h (p / 8); simp only; grind
  · have := h x; grind
theorem Calm.erase {σ : ChipS} {r : Int} (h : Calm σ r) (hr : 0 ≤ r) (x : Int) : Calm (σ.erase x).2 r := by
  unfold ChipS.erase
  have hs : Calm σ.step.2 r := h.of_b (step_b σ)
  have hx := hs x
  split
  · exact h
  split
  · exact h
  split
  · exact hs
  rw [hx.2.1, hx.2.2.1]
  simp only [Bool.or_self, if_neg Bool.false_ne_true]
  intro y
  unfold ChipS.updB upd BlockS.clear
  simp only
  split
  · exact ⟨hx.1, rfl, hx.2.2.1, Int.le_refl 0, hr⟩
  · exact hs y
/-- the power is on again: a block is erased, its first page reads 255 -/
theorem cuts_j2 (k : Nat) (hk : 200 < k) {m : Mem} {c : Nat} {σ : ChipS} {F : Heap} (hO : Own m ((c, .live (chipC σ)) :: F)) (hc : Calm σ 1) (hs : 0 ≤ σ.steps ∧ σ.steps ≤ 100) :
    Ok (patinalaw05_NandCuts_j2 k true (some ⟨c, 0, none⟩) m) fun r => r.1 = true := by
  unfold patinalaw05_NandCuts_j2
  have e1 := nand_Power_is k (hO.at 0 rfl)
  have h1 := hO.wr 0 rfl (chipC { σ with off := false, cut := false, budget := 0 })
  obtain ⟨τ, hτ⟩ : ∃ τ : ChipS, { σ with off := false, cut := false, budget := 0 } = τ := ⟨_, rfl⟩
  have ht : Calm τ 1 := by rw [← hτ]; exact hc.of_b rfl
  have t1 : τ.off = false := by rw [← hτ]
  have t2 : τ.cut = false := by rw [← hτ]
  have t3 : τ.budget = 0 := by rw [← hτ]
  have t4 : τ.steps = σ.steps := by rw [← hτ]
  rw [hτ] at e1 h1
  simp only [List.set_cons_zero] at h1
  obtain ⟨g, e2⟩ := nand_Erase_ok k (h1.at 0 rfl) (by omega) (by omega) (by omega) 0
  have hx := ht 0
  have ee : τ.erase 0 = (0, ({ τ with steps := τ.steps + 1 } : ChipS).updB 0 ({ τ.b 0 with failed := false } : BlockS).clear) := by
    unfold ChipS.erase
    have hst : τ.step = (0, { τ with steps := τ.steps + 1 }) := by unfold ChipS.step; rw [if_neg (by rw [t2]; simp)]
    rw [if_neg (by omega), if_neg (by rw [t1]; simp), hst]
    simp only
    rw [if_neg (by simp), hx.2.1, hx.2.2.1]
    simp
  rw [ee] at e2
  have h2 := (h1.wr 0 rfl (chipC (({ τ with steps := τ.steps + 1 } : ChipS).updB 0 ({ τ.b 0 with failed := false } : BlockS).clear))).grow g
  simp only [List.set_cons_zero] at h2
  obtain ⟨υ, hυ⟩ : ∃ υ : ChipS, ({ τ with steps := τ.steps + 1 } : ChipS).updB 0 ({ τ.b 0 with failed := false } : BlockS).clear = υ := ⟨_, rfl⟩
  have u1 : υ.off = false := by rw [← hυ]; exact t1
  have u2 : υ.b 0 = ({ τ.b 0 with failed := false } : BlockS).clear := by rw [← hυ, updB_b]
  rw [hυ] at e2 h2
  simp only at e2
  simp (disch := omega) only [Option.bind_some, Option.map_some, cond_true, cond_false, wrap_i64, tmod_pos, tdiv_pos, inRange_yes, inUpto_yes, isZero_no, decide_eq_true, decide_eq_false, Bool.not_true, Bool.not_false, Int.toNat_natCast, Nat.mul_one, beqI_yes, beqI_no, bneI_yes, bneI_no, isNil_nil, isNil_iface, wr_wr, Option.isNone_none, Option.isNone_some, plus, Nat.zero_add, Nat.add_zero, e1, e2]
  have u3 : (υ.b (0 / 8)).reads = 0 := by rw [show (0 / 8 : Int) = 0 from rfl, u2]; rfl
  have hre := chipRead_ok k (by omega) h2 (p := 0) (by omega) (by omega) u1 (by omega)
  rw [wr_wr] at h2 hre
  refine .bind hre ?_
  rintro ⟨_, _, m3⟩ ⟨d, rfl, rfl, h3⟩
  simp only at h3
  have l1 := arr_ldn (sp := none) (i := 0) (h3.at 0 rfl) (by omega)
  have v1 : υ.page 0 ((0 : Nat) : Int) = 255 := by
    show ((υ.b 0).ch 0).now 0 = 255
    rw [u2]; rfl
  rw [v1] at l1
  have e4 := nand_On_is k (h3.at 1 rfl)
  have u4 : (υ.readd 0).off = false := u1
  have t0 : Int.toNat 0 = 0 := rfl
  have c256 : ((256 : Nat) : Int) = 256 := rfl
  have e0 : decide ((0 : Int) = 0) = true := rfl
  simp (disch := omega) only [Option.bind_some, Option.map_some, cond_true, cond_false, wrap_i64, tmod_pos, tdiv_pos, inRange_yes, inUpto_yes, isZero_no, decide_eq_true, decide_eq_false, Bool.not_true, Bool.not_false, Int.toNat_natCast, Nat.mul_one, beqI_yes, beqI_no, bneI_yes, bneI_no, isNil_nil, isNil_iface, wr_wr, Option.isNone_none, Option.isNone_some, plus, Nat.zero_add, Nat.add_zero, isNil_errC, e0, c256, t0, l1, e4, u4]
  exact .some rfl

/-- a chip whose power goes behind n steps, of which some are done -/
structure Under (σ : ChipS) (n d : Int) : Prop where
  calm : Calm σ 0
  cut : σ.cut = true
  steps : σ.steps = d
  budget : σ.budget = n - d
  range : 0 ≤ d ∧ d ≤ n ∧ n < 40
  off : σ.off = true → d = n
theorem Under.write {σ : ChipS} {n d p q : Int} (h : Under σ n d) (hp : isAt p q) (f : Int → Int) :
    (σ.write p q 64 f = (7, σ) ∧ σ.off = true) ∨ (σ.write p q 64 f = (9, σ) ∧ σ.off = false ∧ (σ.at_ p q).is = true) ∨
    (∃ τ : ChipS, σ.write p q 64 f = (7, τ) ∧ (σ.at_ p q).is = false ∧ (τ.at_ p q).is = false ∧ τ.off = true ∧ d = n ∧ Under τ n d) ∨
    (∃ τ : ChipS, σ.write p q 64 f = (0, τ) ∧ σ.off = false ∧ (σ.at_ p q).is = false ∧ (τ.at_ p q).is = true ∧ Under τ n (d + 1)) := by
  have hc := h.calm (p / 8)
  rw [write_plain hp hc.1 hc.2.1]
  cases ho : σ.off with
  | true => exact .inl ⟨by rw [if_pos rfl], rfl⟩
  | false =>
    cases hi : (σ.at_ p q).is with
    | true => exact .inr (.inl ⟨by rw [if_neg (by simp), if_pos rfl], rfl, rfl⟩)
    | false =>
      rw [if_neg (by simp), if_neg (by simp)]
      by_cases hb : σ.budget = 0
      · have hst : σ.step = (7, { σ with off := true }) := by unfold ChipS.step; rw [if_pos h.cut, if_pos hb]
        have hd : d = n := by have := h.budget; omega
        refine .inr (.inr (.inl ⟨{ σ with off := true }, by rw [hst]; simp, rfl, hi, rfl, hd, ⟨h.calm.of_b rfl, h.cut, h.steps, h.budget, h.range, fun _ => hd⟩⟩))
      · have hst : σ.step = (0, { σ with budget := σ.budget - 1, steps := σ.steps + 1 }) := by unfold ChipS.step; rw [if_pos h.cut, if_neg hb]
        refine .inr (.inr (.inr ⟨({ σ with budget := σ.budget - 1, steps := σ.steps + 1 } : ChipS).put p q ⟨f, f, true, 0⟩, by rw [hst]; simp, rfl, rfl, by rw [put_at], ⟨(h.calm.of_b rfl).put p q _, h.cut, ?_, ?_, ?_, ?_⟩⟩))
        · show σ.steps + 1 = d + 1
          rw [h.steps]
        · show σ.budget - 1 = n - (d + 1)
          rw [h.budget]; omega
        · have := h.budget
          have := h.range
          omega
        · intro hoff
          have : σ.off = true := hoff
          rw [ho] at this; cases this

theorem nandCuts_run (o : MObj) (n0 : Int) (q : Option Addr) (N c' : Nat) (cs : List Value) (w0 : (Lit.int .i64 n0).wf = true) (hh : Holds o 0 q N [.int .i64] cs) (hc : N ≤ c') (hN : N * 8 ≤ 140737488351232) :
    ∃ k m', patinalaw05_NandCuts k n0 q N c' [o] = some (true, m') := by
  refine ⟨N + 300, ?_⟩
  have hk : 200 < N + 300 := by omega
  have hkN : N < N + 300 := by omega
  generalize N + 300 = k at hk hkN
  have key : Ok (patinalaw05_NandCuts k n0 q N c' [o]) fun r => r.1 = true := by
    unfold patinalaw05_NandCuts
    have hO : Own [o] [(0, o)] := ⟨by simp, by simp⟩
    refine .bind (shown_ok k hk hO) ?_
    rintro ⟨_, m1⟩ ⟨rfl, h1⟩
    simp only at h1
    refine .bind (chipNew_ok k (by omega) h1) ?_
    rintro ⟨_, m2⟩ ⟨c, rfl, h2⟩
    simp only at h2
    obtain ⟨n, en, n1, n2⟩ := pick05_is k n0 40 m2 (wf_i64 w0) (by omega)
    have ec := nand_Cut_is k (h2.at 0 rfl) n
    rw [if_neg (by omega), show fresh.off = false from rfl, if_neg (by simp)] at ec
    have h3 := h2.wr 0 rfl (chipC { fresh with cut := true, budget := n })
    simp only [List.set_cons_zero] at h3
    have hU : Under { fresh with cut := true, budget := n } n 0 := ⟨fun x => ⟨rfl, rfl, rfl, Int.le_refl _, Int.le_refl _⟩, rfl, rfl, by simp, by omega, fun h => by cases h⟩
    simp (disch := omega) only [Option.bind_some, Option.map_some, cond_true, cond_false, wrap_i64, tmod_pos, tdiv_pos, inRange_yes, inUpto_yes, isZero_no, decide_eq_true, decide_eq_false, Bool.not_true, Bool.not_false, Int.toNat_natCast, Nat.mul_one, beqI_yes, beqI_no, bneI_yes, bneI_no, isNil_nil, isNil_iface, wr_wr, Option.isNone_none, Option.isNone_some, plus, Nat.zero_add, Nat.add_zero, en, ec]
    refine patinalaw05_NandCuts_l0_rule k _ _ (fun d x1a x1n x1c x5 x6 x7 x9 x10 m => q = x1a ∧ N = x1n ∧ c' = x1c ∧ true = x5 ∧ (some ⟨c, 0, none⟩ : Option Addr) = x6 ∧ n = x7 ∧ 0 ≤ x10 ∧ x10 + d = N ∧ ∃ σ : ChipS, Under σ n x9 ∧ Own m [(c, .live (chipC σ)), (0, o)]) ?_ k N _ _ _ _ _ _ 0 0 _ hkN
      ⟨rfl, rfl, rfl, rfl, rfl, rfl, by omega, by omega, _, hU, h3⟩
    clear hU h3 ec en h2 h1 hO
    rintro d nx _ _ _ _ _ _ dn i m ⟨rfl, rfl, rfl, rfl, rfl, rfl, hi, hd, σ, hU, hO⟩ hnx
    unfold patinalaw05_NandCuts_l0_b
    have hrg := hU.range
    have hst := hU.steps
    have hbu := hU.budget
    by_cases hlt : i < N
    · have hp := hh.ptr (j := i.toNat) (by omega)
      subst hp
      have el := hh.ldIntI (hO.at 1 rfl) hi hlt
      obtain ⟨p, ep, p0, p1⟩ := pick05_is k (intAt (cs.getD i.toNat undef)) 96 m (wf_i64 (hh.wfI hi hlt)) (by omega)
      have hat : isAt p (i % 4) := ⟨p0, p1, by omega, by omega⟩
      have et := nand_Truth_is k (hO.at 0 rfl) p (i % 4)
      rw [if_pos hat] at et
      have hO1 := hO.grow [.live (arr .u8 64 (σ.at_ p (i % 4)).tru)]
      have eo := nand_On_is k (hO1.at 0 rfl)
      simp (disch := omega) only [Option.bind_some, Option.map_some, cond_true, cond_false, wrap_i64, tmod_pos, tdiv_pos, inRange_yes, inUpto_yes, isZero_no, decide_eq_true, decide_eq_false, Bool.not_true, Bool.not_false, Int.toNat_natCast, Nat.mul_one, beqI_yes, beqI_no, bneI_yes, bneI_no, isNil_nil, isNil_iface, wr_wr, Option.isNone_none, Option.isNone_some, plus, Nat.zero_add, Nat.add_zero, el, ep, et, eo]
      refine .bind (some_ok k (by omega) hO1 _) ?_
      rintro ⟨_, m3⟩ ⟨s, rfl, hO2⟩
      simp only at hO2
      have hO3 := hO2.pick [1, 0, 2] 3 (by decide)
      simp only [pickL, List.filterMap, List.getElem?_cons_zero, List.getElem?_cons_succ, List.drop_succ_cons, List.drop_zero, List.cons_append, List.nil_append] at hO3
      have ew := write_O k hO3 (by omega) (by omega) (fun x => by have := (hU.calm x).1; omega) p (i % 4) (cc := 64)
      have go : ∀ (dn' : Int) (τ : ChipS) (mm : Mem), Under τ n dn' → Own mm [(c, .live (chipC τ)), (0, o)] → Ok (nx (some ⟨0, 0, none⟩) N c' true (some ⟨c, 0, none⟩) n dn' (i + 1) mm) fun r => r.1 = true :=
        fun dn' τ mm h4 h5 => hnx (d - 1) _ _ _ _ _ _ _ _ _ (by omega) ⟨rfl, rfl, rfl, rfl, rfl, rfl, by omega, by omega, τ, h4, h5⟩
      have e07 : decide ((7 : Int) = 0) = false := rfl
      have e09 : decide ((9 : Int) = 0) = false := rfl
      have e00 : decide ((0 : Int) = 0) = true := rfl
      have b79 : ((7 : Int) == 9) = false := rfl
      have b99 : ((9 : Int) == 9) = true := rfl
      have b77 : ((7 : Int) == 7) = true := rfl
      have f9 := fun x => ifEq_errC x 9 (by omega)
      have f7 := fun x => ifEq_errC x 7 (by omega)
      -- behind the write
      have behind : ∀ (e : Int) (τ : ChipS), σ.write p (i % 4) 64 (fun _ => IntKind.wrap .u8 i) = (e, τ) →
          nand_Chip_Write k (some ⟨c, 0, none⟩) p (i % 4) (some ⟨s, 0, none⟩) 64 64 m3 = some (errC e, wr m3 c (chipC τ)) ∧
          ∃ g : Mem, nand_Chip_Truth k (some ⟨c, 0, none⟩) p (i % 4) (wr m3 c (chipC τ)) = some (⟨some ⟨(wr m3 c (chipC τ)).length, 0, some 1⟩, 64, 64⟩, (τ.at_ p (i % 4)).is, .nilIface, wr m3 c (chipC τ) ++ g) ∧ Own (wr m3 c (chipC τ) ++ g) [(c, .live (chipC τ)), (0, o)] := by
        intro e τ h4
        rw [h4] at ew
        have h5 := hO3.wr 0 rfl (chipC τ)
        simp only [List.set_cons_zero] at h5
        have h6 := nand_Truth_is k (h5.at 0 rfl) p (i % 4)
        rw [if_pos hat] at h6
        refine ⟨ew, _, h6, ?_⟩
        have h7 := (h5.pick [0, 2] 3 (by decide)).grow [.live (arr .u8 64 (τ.at_ p (i % 4)).tru)]
        simpa [pickL] using h7
      rcases hU.write hat (fun _ => IntKind.wrap .u8 i) with ⟨h4, h5⟩ | ⟨h4, h5, h6⟩ | ⟨τ, h4, h5, h6, h7, h8, h9⟩ | ⟨τ, h4, h5, h6, h7, h8⟩
      · obtain ⟨g1, g, g2, g3⟩ := behind _ _ h4
        have g4 := nand_On_is k (g3.at 0 rfl)
        have hdn := hU.off h5
        rw [h5] at g4
        simp (disch := omega) only [Option.bind_some, Option.map_some, cond_true, cond_false, wrap_i64, tmod_pos, tdiv_pos, inRange_yes, inUpto_yes, isZero_no, decide_eq_true, decide_eq_false, Bool.not_true, Bool.not_false, Int.toNat_natCast, Nat.mul_one, beqI_yes, beqI_no, bneI_yes, bneI_no, isNil_nil, isNil_iface, wr_wr, Option.isNone_none, Option.isNone_some, plus, Nat.zero_add, Nat.add_zero, g1, g2, isNil_errC, e07, f9, b79, f7, b77, beq_self_eq_true, g4, patinalaw05_NandCuts_j1]
        exact go _ σ _ hU g3
      · obtain ⟨g1, g, g2, g3⟩ := behind _ _ h4
        simp (disch := omega) only [Option.bind_some, Option.map_some, cond_true, cond_false, wrap_i64, tmod_pos, tdiv_pos, inRange_yes, inUpto_yes, isZero_no, decide_eq_true, decide_eq_false, Bool.not_true, Bool.not_false, Int.toNat_natCast, Nat.mul_one, beqI_yes, beqI_no, bneI_yes, bneI_no, isNil_nil, isNil_iface, wr_wr, Option.isNone_none, Option.isNone_some, plus, Nat.zero_add, Nat.add_zero, g1, g2, isNil_errC, e09, f9, b99, h6, h5, patinalaw05_NandCuts_j1]
        exact go _ σ _ hU g3
      · obtain ⟨g1, g, g2, g3⟩ := behind _ _ h4
        have g4 := nand_On_is k (g3.at 0 rfl)
        rw [h7] at g4
        simp (disch := omega) only [Option.bind_some, Option.map_some, cond_true, cond_false, wrap_i64, tmod_pos, tdiv_pos, inRange_yes, inUpto_yes, isZero_no, decide_eq_true, decide_eq_false, Bool.not_true, Bool.not_false, Int.toNat_natCast, Nat.mul_one, beqI_yes, beqI_no, bneI_yes, bneI_no, isNil_nil, isNil_iface, wr_wr, Option.isNone_none, Option.isNone_some, plus, Nat.zero_add, Nat.add_zero, g1, g2, isNil_errC, e07, f9, b79, f7, b77, h5, h6, beq_self_eq_true, g4, patinalaw05_NandCuts_j1]
        exact go _ τ _ h9 g3
      · obtain ⟨g1, g, g2, g3⟩ := behind _ _ h4
        simp (disch := omega) only [Option.bind_some, Option.map_some, cond_true, cond_false, wrap_i64, tmod_pos, tdiv_pos, inRange_yes, inUpto_yes, isZero_no, decide_eq_true, decide_eq_false, Bool.not_true, Bool.not_false, Int.toNat_natCast, Nat.mul_one, beqI_yes, beqI_no, bneI_yes, bneI_no, isNil_nil, isNil_iface, wr_wr, Option.isNone_none, Option.isNone_some, plus, Nat.zero_add, Nat.add_zero, g1, g2, isNil_errC, e00, h6, h7, h5, patinalaw05_NandCuts_j1]
        exact go _ τ _ h8 g3
    · clear hnx
      have eo := nand_On_is k (hO.at 0 rfl)
      cases ho : σ.off with
      | true =>
        rw [ho] at eo
        have er := chipRead_off k (hO.at 0 rfl) (p := 0) (by omega) (by omega) ho
        obtain ⟨g, ee⟩ := nand_Erase_ok k (hO.at 0 rfl) (by omega) (by omega) (by omega) 0
        have hee : σ.erase 0 = (7, σ) := by unfold ChipS.erase; rw [if_neg (by omega), if_pos ho]
        rw [hee] at ee
        simp only [wr_same (hO.at 0 rfl)] at ee
        have hO1 := hO.grow g
        have es := nand_Steps_is k (hO1.at 0 rfl)
        have b77 : ((7 : Int) == 7) = true := rfl
        have f7 := fun x => ifEq_errC x 7 (by omega)
        simp (disch := omega) only [Option.bind_some, Option.map_some, cond_true, cond_false, wrap_i64, tmod_pos, tdiv_pos, inRange_yes, inUpto_yes, isZero_no, decide_eq_true, decide_eq_false, Bool.not_true, Bool.not_false, Int.toNat_natCast, Nat.mul_one, beqI_yes, beqI_no, bneI_yes, bneI_no, isNil_nil, isNil_iface, wr_wr, Option.isNone_none, Option.isNone_some, plus, Nat.zero_add, Nat.add_zero, eo, er, ee, f7, b77, es]
        exact cuts_j2 k hk hO1 (fun x => by have := hU.calm x; grind) (by omega)
      | false =>
        rw [ho] at eo
        have hr0 := hU.calm (0 / 8)
        simp (disch := omega) only [Option.bind_some, Option.map_some, cond_true, cond_false, wrap_i64, tmod_pos, tdiv_pos, inRange_yes, inUpto_yes, isZero_no, decide_eq_true, decide_eq_false, Bool.not_true, Bool.not_false, Int.toNat_natCast, Nat.mul_one, beqI_yes, beqI_no, bneI_yes, bneI_no, isNil_nil, isNil_iface, wr_wr, Option.isNone_none, Option.isNone_some, plus, Nat.zero_add, Nat.add_zero, eo]
        refine .bind (chipRead_ok k (by omega) hO (p := 0) (by omega) (by omega) ho (by omega)) ?_
        rintro ⟨_, _, m3⟩ ⟨dd, rfl, rfl, h4⟩
        simp only at h4
        have h5 := h4.tail
        have s1 : (σ.readd 0).steps = dn := hst
        have s2 : (σ.readd 0).budget = n - dn := hbu
        have s3 : (σ.readd 0).cut = true := hU.cut
        obtain ⟨g, ee⟩ := nand_Erase_ok k (h5.at 0 rfl) (by omega) (by omega) (by omega) 0
        have hC : Calm ((σ.readd 0).erase 0).2 1 := (hU.calm.readd 0).erase (by omega) 0
        have hS : ((σ.readd 0).erase 0).2.steps ≤ n ∧ 0 ≤ ((σ.readd 0).erase 0).2.steps := by
          have t1 : (σ.readd 0).step.2.steps ≤ n ∧ 0 ≤ (σ.readd 0).step.2.steps := by
            unfold ChipS.step
            rw [if_pos s3]
            split
            · simp only; omega
            · simp only; omega
          unfold ChipS.erase
          repeat' split
          all_goals first | exact t1 | (simp only; omega)
        have h6 := (h5.wr 0 rfl (chipC ((σ.readd 0).erase 0).2)).grow g
        simp only [List.set_cons_zero] at h6
        have es := nand_Steps_is k (h6.at 0 rfl)
        simp (disch := omega) only [Option.bind_some, Option.map_some, cond_true, cond_false, wrap_i64, tmod_pos, tdiv_pos, inRange_yes, inUpto_yes, isZero_no, decide_eq_true, decide_eq_false, Bool.not_true, Bool.not_false, Int.toNat_natCast, Nat.mul_one, beqI_yes, beqI_no, bneI_yes, bneI_no, isNil_nil, isNil_iface, wr_wr, Option.isNone_none, Option.isNone_some, plus, Nat.zero_add, Nat.add_zero, ee, es]
        exact cuts_j2 k hk h6 hC (by omega)
  obtain ⟨⟨r, m'⟩, h1, h2⟩ := key
  exact ⟨m', by rw [h1]; simp only at h2; rw [h2]⟩
end Go.Proofs.Ytoljgolgecbcdaa
