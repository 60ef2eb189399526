/- The document's chip: bits turned, blocks erased, a new one. -/
import Derived.Test.YtlbbcgjfkpnilaaNrefB
set_option linter.unusedVariables false
set_option linter.unusedSectionVars false
set_option linter.unusedSimpArgs false
namespace Go.Proofs.Ytlbbcgjfkpnilaa
open Go.Mx

theorem blank_bys : arr .u8 64 (fun _ => 255) = bys 64 fun _ => GF.of 255 := arr_congr fun i _ _ => by unfold byI; rw [GF.v_of (by omega)]; rfl
theorem refBlank_is (k : Nat) (hk : 64 < k) (m : Mem) : patinaref05_blank k m = some (⟨some ⟨m.length, 0, none⟩, 64, 64⟩, m ++ [.live (arr .u8 64 fun _ => 255)]) := by
  have key : Ok (patinaref05_blank k m) fun r => r = (⟨some ⟨m.length, 0, none⟩, 64, 64⟩, m ++ [.live (arr .u8 64 fun _ => 255)]) := by
    unfold patinaref05_blank
    have t64 : Int.toNat 64 = 64 := rfl
    simp (disch := omega) only [Option.bind_some, Option.map_some, cond_true, cond_false, wrap_i64, tmod_pos, tdiv_pos, inRange_yes, inUpto_yes, isZero_no, decide_eq_true, decide_eq_false, Bool.not_true, Bool.not_false, Int.toNat_natCast, Nat.mul_one, beqI_yes, beqI_no, bneI_yes, bneI_no, isNil_nil, isNil_iface, wr_wr, Option.isNone_none, Option.isNone_some, plus, Nat.zero_add, Nat.add_zero, t64, repl_int (k := .u8)]
    refine patinaref05_blank_l0_rule k _ (fun r x1a x1n x1c x2 M => (some ⟨m.length, 0, none⟩ : Option Addr) = x1a ∧ 64 = x1n ∧ 64 = x1c ∧ ∃ j : Nat, x2 = j ∧ j + r = 64 ∧ M = m ++ [.live (arr .u8 64 fun i => if i < j then 255 else 0)]) ?_ k 64 _ _ _ _ _ hk
      ⟨rfl, rfl, rfl, 0, rfl, rfl, by rw [arr_congr (f := fun i => if i < ((0 : Nat) : Int) then 255 else 0) (g := fun _ => 0) fun i h0 _ => if_neg (by omega)]⟩
    rintro r nx _ _ _ _ _ ⟨rfl, rfl, rfl, j, rfl, hr, rfl⟩ hnx
    unfold patinaref05_blank_l0_b
    by_cases hj : (j : Int) < 64
    · have e2 := arr_stn (sp := none) (v := 255) (get_last (m := m) (o := .live (arr .u8 64 fun i => if i < (j : Int) then 255 else 0)) rfl) (i := j) (by omega)
      rw [wr_last rfl] at e2
      have i1 : inRange (j : Int) 64 = true := inRange_yes (by omega) (by omega)
      simp (disch := omega) only [Option.bind_some, Option.map_some, cond_true, cond_false, wrap_i64, tmod_pos, tdiv_pos, inRange_yes, inUpto_yes, isZero_no, decide_eq_true, decide_eq_false, Bool.not_true, Bool.not_false, Int.toNat_natCast, Nat.mul_one, beqI_yes, beqI_no, bneI_yes, bneI_no, isNil_nil, isNil_iface, wr_wr, Option.isNone_none, Option.isNone_some, plus, Nat.zero_add, Nat.add_zero, i1, e2]
      refine hnx (r - 1) _ _ _ _ _ (by omega) ⟨rfl, rfl, rfl, j + 1, by omega, by omega, ?_⟩
      congr 3
      refine arr_congr fun i h0 h1 => ?_
      unfold upd
      by_cases h2 : i = (j : Int)
      · rw [if_pos h2, if_pos (by omega)]
      · rw [if_neg h2]
        show (if i < (j : Int) then (255 : Int) else 0) = _
        by_cases h3 : i < (j : Int)
        · rw [if_pos h3, if_pos (by omega)]
        · rw [if_neg h3, if_neg (by omega)]
    · obtain rfl : j = 64 := by omega
      simp (disch := omega) only [Option.bind_some, Option.map_some, cond_true, cond_false, wrap_i64, tmod_pos, tdiv_pos, inRange_yes, inUpto_yes, isZero_no, decide_eq_true, decide_eq_false, Bool.not_true, Bool.not_false, Int.toNat_natCast, Nat.mul_one, beqI_yes, beqI_no, bneI_yes, bneI_no, isNil_nil, isNil_iface, wr_wr, Option.isNone_none, Option.isNone_some, plus, Nat.zero_add, Nat.add_zero]
      refine .some ?_
      rw [arr_congr (f := fun i => if i < ((64 : Nat) : Int) then 255 else 0) (g := fun _ => 255) fun i _ h1 => if_pos (by omega)]
  obtain ⟨r, h1, rfl⟩ := key
  exact h1

/-- the chunks of an erased block -/
structure Cks (m0 m : Mem) (n : Nat) (a : Option Addr) (lb : Nat → Option CL) (N T : Int → Nat × Bool) : Prop where
  gr : Gr m0 m
  row : (a = none ∧ n = 0) ∨ ∃ L, a = some ⟨L, 0, some 4⟩ ∧ m0.length ≤ L ∧ m[L]? = some (.live (farr n fun j => rch (N j) (T j) blank)) ∧ lb L = some .l
  n_ : ∀ j : Int, 0 ≤ j → j < n → m[(N j).1]? = some (.live (arr .u8 64 fun _ => 255)) ∧ lb (N j).1 = some (.n j)
  t_ : ∀ j : Int, 0 ≤ j → j < n → m[(T j).1]? = some (.live (arr .u8 64 fun _ => 255)) ∧ lb (T j).1 = some (.t j)
  new : ∀ p, lb p ≠ none → m0.length ≤ p ∧ p < m.length
theorem appM_any {z y : Nat} {m : Mem} {a : Option Addr} {n l : Nat} {old new : List Value} (h : (a = none ∧ n = 0 ∧ old = []) ∨ ∃ b, a = some ⟨b, 0, some z⟩ ∧ m[b]? = some (.live old) ∧ old.length = n * z) (hl : 0 < l) (h1 : (n + l) * y ≤ most) (h2 : n + l ≤ most) :
    ∃ m', appM z y m a n n l new = some (⟨some ⟨m.length, 0, some z⟩, n + l, n + l⟩, m') ∧ m'.length = m.length + 1 ∧ m'[m.length]? = some (.live (old ++ new)) ∧ (∀ p, p < m.length → (∀ b, a = some ⟨b, 0, some z⟩ → p ≠ b) → m'[p]? = m[p]?) ∧ ∀ m0, Gr m0 m → (∀ b, a = some ⟨b, 0, some z⟩ → m0.length ≤ b) → Gr m0 m' := by
  rcases h with ⟨rfl, rfl, rfl⟩ | ⟨b, rfl, h3, h4⟩
  · refine ⟨m ++ [.live new], ?_, by simp, by rw [get_last rfl]; rfl, fun p hp _ => get_app_lt hp, fun m0 h0 _ => h0.trans (Gr.app _ _)⟩
    rw [Nat.zero_add] at h1 h2 ⊢; exact appM_first hl h1 h2
  · refine ⟨m.set b (.old old m.length) ++ [.live (old ++ new)], appM_grow h3 h4 hl h1 h2, by simp, get_last (by simp), fun p hp hb => ?_, fun m0 h0 hb => (h0.kill (hb b rfl) _).trans (Gr.app _ _)⟩
    rw [get_app_lt (by simpa using hp), get_set_ne (fun h => hb b rfl h.symm)]
theorem refChunks_ok (k : Nat) (hk : 64 < k) (m0 : Mem) : Ok (patinaref05_chunks k m0) fun r => ∃ a lb N T, r.1 = ⟨a, 32, 32⟩ ∧ Cks m0 r.2 32 a lb N T := by
  unfold patinaref05_chunks
  refine patinaref05_chunks_l0_rule k _ (fun r x1a x1n x1c x2 M => ∃ (j : Nat) (lb : Nat → Option CL) (N T : Int → Nat × Bool), x2 = j ∧ j + r = 32 ∧ j = x1n ∧ j = x1c ∧ Cks m0 M j x1a lb N T) ?_ k 32 _ _ _ _ _ (by omega)
    ⟨0, fun _ => none, fun _ => (0, false), fun _ => (0, false), rfl, rfl, rfl, rfl, ⟨.refl _, .inl ⟨rfl, rfl⟩, fun j h0 h1 => by omega, fun j h0 h1 => by omega, fun p hp => absurd rfl hp⟩⟩
  rintro r nx a _ _ _ M ⟨j, lb, N, T, rfl, hr, rfl, rfl, hC⟩ hnx
  unfold patinaref05_chunks_l0_b
  by_cases hj : (j : Int) < 32
  · have b1 := refBlank_is k hk M
    have b2 := refBlank_is k hk (M ++ [.live (arr .u8 64 fun _ => 255)])
    have l1 : (M ++ [MObj.live (arr .u8 64 fun _ => 255)]).length = M.length + 1 := by simp
    have l2 : (M ++ [MObj.live (arr .u8 64 fun _ => 255)] ++ [MObj.live (arr .u8 64 fun _ => 255)]).length = M.length + 2 := by simp
    rw [l1] at b2
    let c4 : List Value := rch (M.length, false) (M.length + 1, false) blank
    have hc4 : ([Value.slice (some ⟨M.length, 0, none⟩) 64 64, .slice (some ⟨M.length + 1, 0, none⟩) 64 64, .bool false, .int .i64 0] : List Value) = c4 := rfl
    have r4 : rdSl (M ++ [MObj.live (arr .u8 64 fun _ => 255)] ++ [MObj.live (arr .u8 64 fun _ => 255)] ++ [.live c4]) (some ⟨M.length + 2, 0, none⟩) 1 4 = some c4 := rdSl_all (get_last (by simp)) rfl
    have l3 : (M ++ [MObj.live (arr .u8 64 fun _ => 255)] ++ [MObj.live (arr .u8 64 fun _ => 255)] ++ [MObj.live c4]).length = M.length + 3 := by simp
    have hgl : Gr M (M ++ [MObj.live (arr .u8 64 fun _ => 255)] ++ [MObj.live (arr .u8 64 fun _ => 255)] ++ [.live c4]) := ((Gr.app _ _).trans (Gr.app _ _)).trans (Gr.app _ _)
    have g0 : (M ++ [MObj.live (arr .u8 64 fun _ => 255)] ++ [MObj.live (arr .u8 64 fun _ => 255)] ++ [.live c4])[M.length]? = some (.live (arr .u8 64 fun _ => 255)) := get_grow (get_grow (get_last rfl))
    have g1 : (M ++ [MObj.live (arr .u8 64 fun _ => 255)] ++ [MObj.live (arr .u8 64 fun _ => 255)] ++ [.live c4])[M.length + 1]? = some (.live (arr .u8 64 fun _ => 255)) := get_grow (get_last l1)
    simp (disch := omega) only [Option.bind_some, Option.map_some, cond_true, cond_false, wrap_i64, tmod_pos, tdiv_pos, inRange_yes, inUpto_yes, isZero_no, decide_eq_true, decide_eq_false, Bool.not_true, Bool.not_false, Int.toNat_natCast, Nat.mul_one, beqI_yes, beqI_no, bneI_yes, bneI_no, isNil_nil, isNil_iface, wr_wr, Option.isNone_none, Option.isNone_some, plus, Nat.zero_add, Nat.add_zero, decide_eq_true hj, b1, b2, hc4, l2]
    generalize M ++ [MObj.live (arr .u8 64 fun _ => 255)] ++ [MObj.live (arr .u8 64 fun _ => 255)] ++ [.live c4] = M3 at *
    have hlen : (farr j fun j => rch (N j) (T j) blank).length = j * 4 := farr_len (z := 4) fun _ _ _ => rfl
    have hml := hC.gr.len
    obtain ⟨m', a1, a2, a3, a4, a5⟩ := appM_any (z := 4) (y := 64) (m := M3) (a := a) (n := j) (l := 1) (old := farr j fun j => rch (N j) (T j) blank) (new := c4) (by
      rcases hC.row with ⟨h1, h2⟩ | ⟨L, h1, h2, h3, _⟩
      · refine .inl ⟨h1, h2, ?_⟩
        subst h2; rfl
      · exact .inr ⟨L, h1, hgl.get h3, hlen⟩) (by omega) (by unfold most; omega) (by unfold most; omega)
    have rowne : ∀ b, a = some ⟨b, 0, some 4⟩ → m0.length ≤ b ∧ b < M.length ∧ lb b = some .l := by
      rintro b rfl
      rcases hC.row with ⟨h1, _⟩ | ⟨L, h1, h2, h3, h4⟩
      · cases h1
      · simp only [Option.some.injEq, Addr.mk.injEq, and_true] at h1
        subst h1; exact ⟨h2, get_lt h3, h4⟩
    have a5 := a5 m0 (hC.gr.trans hgl) fun b hb => (rowne b hb).1
    rw [l3] at a1 a2 a3
    simp (disch := omega) only [Option.bind_some, Option.map_some, cond_true, cond_false, wrap_i64, tmod_pos, tdiv_pos, inRange_yes, inUpto_yes, isZero_no, decide_eq_true, decide_eq_false, Bool.not_true, Bool.not_false, Int.toNat_natCast, Nat.mul_one, beqI_yes, beqI_no, bneI_yes, bneI_no, isNil_nil, isNil_iface, wr_wr, Option.isNone_none, Option.isNone_some, plus, Nat.zero_add, Nat.add_zero, r4, a1]
    let N' : Int → Nat × Bool := upd N j (M.length, false)
    let T' : Int → Nat × Bool := upd T j (M.length + 1, false)
    let lb' : Nat → Option CL := fun p => if p = M.length then some (.n j) else if p = M.length + 1 then some (.t j) else if p = M.length + 3 then some .l else lb p
    have hlb : ∀ p, p < M.length → lb' p = lb p := fun p hp => by show (if _ then _ else _) = _; rw [if_neg (by omega), if_neg (by omega), if_neg (by omega)]
    have keep : ∀ p o, M[p]? = some o → (∀ b, a = some ⟨b, 0, some 4⟩ → p ≠ b) → m'[p]? = some o := fun p o hp hb => by
      rw [a4 p (by have := get_lt hp; omega) hb]; exact hgl.get hp
    refine hnx (r - 1) _ _ _ ((j : Int) + 1) _ (by omega) ⟨j + 1, lb', N', T', by omega, by omega, rfl, rfl, ⟨a5, .inr ⟨M.length + 3, rfl, by omega, ?_, ?_⟩, fun i h0 h1 => ?_, fun i h0 h1 => ?_, fun p hp => ?_⟩⟩
    · rw [a3, farr_succ]
      congr 3
      · refine farr_congr fun i _ h1 => ?_
        show _ = rch (upd N j _ i) (upd T j _ i) blank
        rw [upd_ne (by omega), upd_ne (by omega)]
      · show _ = rch (upd N j _ j) (upd T j _ j) blank
        rw [upd_same, upd_same]
    · show (if _ then _ else _) = _
      rw [if_neg (by omega), if_neg (by omega), if_pos rfl]
    · by_cases hi : i = (j : Int)
      · subst hi
        show m'[(upd N j _ j).1]? = _ ∧ lb' (upd N j _ j).1 = _
        rw [upd_same]
        refine ⟨by rw [a4 M.length (by omega) fun b hb => by have := (rowne b hb).2.1; omega]; exact g0, ?_⟩
        show (if _ then _ else _) = _
        rw [if_pos rfl]
      · have := hC.n_ i h0 (by omega)
        show m'[(upd N j _ i).1]? = _ ∧ lb' (upd N j _ i).1 = _
        rw [upd_ne hi]
        have q1 := get_lt this.1
        exact ⟨keep _ _ this.1 (fun b hb he => by have h2 := this.2; rw [he, (rowne b hb).2.2] at h2; cases h2), by rw [hlb _ q1]; exact this.2⟩
    · by_cases hi : i = (j : Int)
      · subst hi
        show m'[(upd T j _ j).1]? = _ ∧ lb' (upd T j _ j).1 = _
        rw [upd_same]
        refine ⟨by rw [a4 (M.length + 1) (by omega) fun b hb => by have := (rowne b hb).2.1; omega]; exact g1, ?_⟩
        show (if _ then _ else _) = _
        rw [if_neg (by omega), if_pos rfl]
      · have := hC.t_ i h0 (by omega)
        show m'[(upd T j _ i).1]? = _ ∧ lb' (upd T j _ i).1 = _
        rw [upd_ne hi]
        have q1 := get_lt this.1
        exact ⟨keep _ _ this.1 (fun b hb he => by have h2 := this.2; rw [he, (rowne b hb).2.2] at h2; cases h2), by rw [hlb _ q1]; exact this.2⟩
    · by_cases q0 : p < M.length
      · rw [hlb p q0] at hp
        have := hC.new p hp
        omega
      · refine ⟨by omega, ?_⟩
        rw [a2]
        by_cases q1 : p = M.length
        · omega
        · by_cases q2 : p = M.length + 1
          · omega
          · by_cases q3 : p = M.length + 3
            · omega
            · have : lb' p = lb p := by show (if _ then _ else _) = _; rw [if_neg q1, if_neg q2, if_neg q3]
              rw [this] at hp
              have := hC.new p hp
              omega
  · obtain rfl : j = 32 := by omega
    simp (disch := omega) only [Option.bind_some, Option.map_some, cond_true, cond_false, wrap_i64, tmod_pos, tdiv_pos, inRange_yes, inUpto_yes, isZero_no, decide_eq_true, decide_eq_false, Bool.not_true, Bool.not_false, Int.toNat_natCast, Nat.mul_one, beqI_yes, beqI_no, bneI_yes, bneI_no, isNil_nil, isNil_iface, wr_wr, Option.isNone_none, Option.isNone_some, plus, Nat.zero_add, Nat.add_zero]
    exact .some ⟨a, lb, N, T, rfl, hC⟩

section
variable {m : Mem} {r : Nat} {lab : Nat → Option Lab} {g : RG} {σ : ChipS} (h : RefX m r lab g σ)
include h
theorem refErase_ok (k : Nat) (hk : 64 < k) (hs : 0 ≤ σ.steps ∧ σ.steps < 4611686018427387904) (hb : 0 ≤ σ.budget ∧ σ.budget < 9223372036854775808) (x : Int) :
    Ok (patinaref05_Chip_Erase k (some ⟨r, 0, none⟩) x m) fun y => y.1 = (σ.erase x).1 ∧ ∃ lab' g', RefX y.2 r lab' g' (σ.erase x).2 ∧ Lx m y.2 lab lab' := by
  unfold patinaref05_Chip_Erase
  rw [refIsBlock_is]
  by_cases hx : 0 ≤ x ∧ x < 12
  · obtain ⟨x0, x1⟩ := hx
    cases ho : σ.off with
    | true =>
      have ew : σ.erase x = (7, σ) := by unfold ChipS.erase; rw [if_neg (fun h => h ⟨x0, x1⟩), if_pos ho]
      simp (disch := omega) only [Option.bind_some, Option.map_some, cond_true, cond_false, wrap_i64, tmod_pos, tdiv_pos, inRange_yes, inUpto_yes, isZero_no, decide_eq_true, decide_eq_false, Bool.not_true, Bool.not_false, Int.toNat_natCast, Nat.mul_one, beqI_yes, beqI_no, bneI_yes, bneI_no, isNil_nil, isNil_iface, wr_wr, Option.isNone_none, Option.isNone_some, plus, Nat.zero_add, Nat.add_zero, decide_eq_true (show 0 ≤ x ∧ x < 12 from ⟨x0, x1⟩), h.ldOn, ho]
      rw [ew]
      exact .some ⟨rfl, lab, g, h, .refl _ _⟩
    | false =>
      obtain ⟨s1, hR⟩ := refStep_is h k hs hb
      have hch := h.chHead (rhead g.q σ.step.2)
      by_cases hst : σ.step.1 = 0
      · have ew : σ.erase x = if (σ.step.2.b x).failed || (σ.step.2.b x).atErase then (8, σ.step.2.updB x { σ.step.2.b x with failed := true }) else (0, σ.step.2.updB x ({ σ.step.2.b x with failed := false } : BlockS).clear) := by
          unfold ChipS.erase; rw [if_neg (fun h => h ⟨x0, x1⟩), if_neg (by simp [ho]), if_neg (fun h => h hst)]
        generalize hτ : σ.step.2 = τ at *
        generalize hm1 : wr m r (rhead g.q τ) = m1 at *
        have i1 : inRange x 12 = true := inRange_yes x0 x1
        simp (disch := omega) only [Option.bind_some, Option.map_some, cond_true, cond_false, wrap_i64, tmod_pos, tdiv_pos, inRange_yes, inUpto_yes, isZero_no, decide_eq_true, decide_eq_false, Bool.not_true, Bool.not_false, Int.toNat_natCast, Nat.mul_one, beqI_yes, beqI_no, bneI_yes, bneI_no, isNil_nil, isNil_iface, wr_wr, Option.isNone_none, Option.isNone_some, plus, Nat.zero_add, Nat.add_zero, decide_eq_true (show 0 ≤ x ∧ x < 12 from ⟨x0, x1⟩), h.ldOn, ho, s1, decide_eq_true hst, hR.ldB, i1, hR.ldAtErase x0 x1]
        -- behind the mark
        have fin : ∀ (M : Mem) (τ' : ChipS) (g' : RG), RefX M r lab g' τ' → g'.q = g.q → Ch (fun p => lab p ≠ none) m1 M → Ok (patinaref05_Chip_Erase_j1 k x ⟨g.q, 0, some 5⟩ M) fun y => (if (τ'.b x).failed = true then y.1 = 8 ∧ y.2 = M else y.1 = 0 ∧ ∃ lab' g', RefX y.2 r lab' g' (τ'.updB x (τ'.b x).clear) ∧ Lx M y.2 lab lab') := by
          intro M τ' g' hM hq hcM
          unfold patinaref05_Chip_Erase_j1
          have e1 := hM.ldFailed x0 x1
          rw [hq] at e1
          cases hf : (τ'.b x).failed with
          | true =>
            simp (disch := omega) only [Option.bind_some, Option.map_some, cond_true, cond_false, wrap_i64, tmod_pos, tdiv_pos, inRange_yes, inUpto_yes, isZero_no, decide_eq_true, decide_eq_false, Bool.not_true, Bool.not_false, Int.toNat_natCast, Nat.mul_one, beqI_yes, beqI_no, bneI_yes, bneI_no, isNil_nil, isNil_iface, wr_wr, Option.isNone_none, Option.isNone_some, plus, Nat.zero_add, Nat.add_zero, e1, hf]
            exact .some ⟨rfl, rfl⟩
          | false =>
            simp (disch := omega) only [Option.bind_some, Option.map_some, cond_true, cond_false, wrap_i64, tmod_pos, tdiv_pos, inRange_yes, inUpto_yes, isZero_no, decide_eq_true, decide_eq_false, Bool.not_true, Bool.not_false, Int.toNat_natCast, Nat.mul_one, beqI_yes, beqI_no, bneI_yes, bneI_no, isNil_nil, isNil_iface, wr_wr, Option.isNone_none, Option.isNone_some, plus, Nat.zero_add, Nat.add_zero, e1, hf]
            refine .bind (refChunks_ok k hk M) ?_
            rintro ⟨_, M2⟩ ⟨a, lb, N, T, rfl, hC⟩
            simp only at hC ⊢
            rcases hC.row with ⟨_, h0⟩ | ⟨L, rfl, hL1, hL2, hL3⟩
            · omega
            have h2 := hM.grow hC.gr
            have s2 := h2.stB x0 x1 (y := 0) (by omega) (v := .slice (some ⟨L, 0, some 4⟩) 32 32) (L' := L) (a' := g'.A x) (β' := τ'.b x) rfl
            have g2 := wr_get (cs := rblks { g' with L := upd g'.L x L, A := upd g'.A x (g'.A x) } (τ'.updB x (τ'.b x))) h2.blocks
            have s3 := st_wr (sp := some 5) (off := x.toNat * 5 + 1) (v := .int .i64 0) g2 (by rw [rblks_len]; omega)
            rw [rblks_set (L' := L) (a' := g'.A x) (β' := (τ'.b x).clear) x0 x1 (by omega) (by
              show (rblk (upd g'.L x L x) (upd g'.A x (g'.A x) x) (upd τ'.b x (τ'.b x) x)).set 1 (.int .i64 0) = _
              rw [upd_same, upd_same, upd_same]; rfl), wr_wr] at s3
            rw [hq, Nat.add_zero] at s2
            rw [hq] at s3
            simp (disch := omega) only [Option.bind_some, Option.map_some, cond_true, cond_false, wrap_i64, tmod_pos, tdiv_pos, inRange_yes, inUpto_yes, isZero_no, decide_eq_true, decide_eq_false, Bool.not_true, Bool.not_false, Int.toNat_natCast, Nat.mul_one, beqI_yes, beqI_no, bneI_yes, bneI_no, isNil_nil, isNil_iface, wr_wr, Option.isNone_none, Option.isNone_some, plus, Nat.zero_add, Nat.add_zero, s2, s3]
            have hpl : ∀ p, lab p ≠ none → p < M.length := hM.lt
            have hml := hC.gr.len
            have hql := get_lt h2.blocks
            rw [hq] at hql
            have eqs : ({ { g' with L := upd g'.L x L, A := upd g'.A x (g'.A x) } with L := upd (upd g'.L x L) x L, A := upd (upd g'.A x (g'.A x)) x (g'.A x) } : RG) = { g' with L := upd g'.L x L } := by
              rw [upd_upd, upd_upd, upd_self]
            have eqc : (τ'.updB x (τ'.b x)).updB x (τ'.b x).clear = τ'.updB x (τ'.b x).clear := put_b _ _ _ _
            have hne : ∀ (p : Nat) o (cs : List Value), M2[p]? = some o → p ≠ g.q → (wr M2 g.q cs)[p]? = some o := fun p o cs hp hn => by rw [wr_ne (Ne.symm hn)]; exact hp
            let lab' : Nat → Option Lab := fun p => if M.length ≤ p then (lb p).map (Lab.of x) else lab p
            have hlq := h2.lq
            rw [hq] at hlq
            have hqM : g.q < M.length := hpl _ (by rw [hlq]; simp)
            have lnew : ∀ p o, lb p = some o → lab' p = some (.of x o) ∧ p ≠ g.q := fun p o hp => by
              have := hC.new p (by rw [hp]; simp)
              refine ⟨?_, by omega⟩
              show (if _ then _ else _) = _
              rw [if_pos this.1, hp]; rfl
            have lold : ∀ p, lab p ≠ none → lab' p = lab p := fun p hp => by
              show (if _ then _ else _) = _
              rw [if_neg (by have := hpl p hp; omega)]
            refine .some ⟨rfl, lab', { g' with L := upd g'.L x L, N := upd g'.N x N, T := upd g'.T x T }, ?_, ⟨⟨?_, fun p hp hn => ?_⟩, lold, fun p hp => ?_⟩⟩
            · refine h2.block (i := x) (L' := L) (N' := N) (T' := T) (β' := (τ'.b x).clear) x0 x1 ?_ lold ?_ ?_ ?_ ?_ ?_ ?_
              · intro p hp
                rw [wr_len]
                have hp : (if M.length ≤ p then (lb p).map (Lab.of x) else lab p) ≠ none := hp
                split at hp
                · exact (hC.new p (fun h => hp (by rw [h]; rfl))).2
                · have := hpl p hp; omega
              · intro p hp hn
                rw [hq] at hn
                exact wr_ne (Ne.symm hn)
              · rw [hq, wr_get (o := .live (rblks g' τ')) (by rw [← hq]; exact h2.blocks), eqc, upd_upd, upd_upd, upd_self]
              · exact h2.at_ x x0 x1
              · obtain ⟨q1, q2⟩ := lnew L _ hL3
                exact ⟨hne _ _ _ hL2 q2, q1⟩
              · intro j j0 j1
                obtain ⟨q3, q4⟩ := hC.n_ j j0 (by omega)
                obtain ⟨q1, q2⟩ := lnew _ _ q4
                exact ⟨hne _ _ _ q3 q2, q1⟩
              · intro j j0 j1
                obtain ⟨q3, q4⟩ := hC.t_ j j0 (by omega)
                obtain ⟨q1, q2⟩ := lnew _ _ q4
                exact ⟨hne _ _ _ q3 q2, q1⟩
            · show _ ≤ (wr M2 g.q _).length; rw [wr_len]; exact hml
            · show (wr M2 g.q _)[p]? = _
              rw [wr_ne (fun he => hn (by rw [← he, hlq]; simp))]
              obtain ⟨gg, hgg⟩ := hC.gr
              rw [hgg]; exact get_app_lt hp
            · have hp : (if M.length ≤ p then (lb p).map (Lab.of x) else lab p) ≠ none := hp
              split at hp
              · right; assumption
              · left; exact hp
        cases hae : (τ.b x).atErase with
        | true =>
          obtain ⟨m2, e1, e2, e3⟩ := hR.setB x0 x1 (y := 2) (by omega) (v := .bool true) (g.A x) { τ.b x with failed := true } rfl rfl (hR.at_ x x0 x1)
          have hf2 : ((τ.updB x { τ.b x with failed := true }).b x).failed = true := by
            show (upd τ.b x _ x).failed = true
            rw [upd_same]
          simp (disch := omega) only [Option.bind_some, Option.map_some, cond_true, cond_false, wrap_i64, tmod_pos, tdiv_pos, inRange_yes, inUpto_yes, isZero_no, decide_eq_true, decide_eq_false, Bool.not_true, Bool.not_false, Int.toNat_natCast, Nat.mul_one, beqI_yes, beqI_no, bneI_yes, bneI_no, isNil_nil, isNil_iface, wr_wr, Option.isNone_none, Option.isNone_some, plus, Nat.zero_add, Nat.add_zero, e1]
          refine (fin m2 _ _ e2 rfl e3).mono ?_
          intro y hy
          rw [if_pos hf2] at hy
          obtain ⟨y1, y2⟩ := hy
          rw [ew, if_pos (by rw [hae, Bool.or_true])]
          exact ⟨y1, lab, _, by rw [y2]; exact e2, by rw [y2]; exact .of (hch.trans e3)⟩
        | false =>
          simp (disch := omega) only [Option.bind_some, Option.map_some, cond_true, cond_false, wrap_i64, tmod_pos, tdiv_pos, inRange_yes, inUpto_yes, isZero_no, decide_eq_true, decide_eq_false, Bool.not_true, Bool.not_false, Int.toNat_natCast, Nat.mul_one, beqI_yes, beqI_no, bneI_yes, bneI_no, isNil_nil, isNil_iface, wr_wr, Option.isNone_none, Option.isNone_some, plus, Nat.zero_add, Nat.add_zero]
          refine (fin m1 τ g hR rfl (.refl _ _)).mono ?_
          intro y hy
          cases hf : (τ.b x).failed with
          | true =>
            rw [if_pos hf] at hy
            obtain ⟨y1, y2⟩ := hy
            rw [ew, if_pos (by rw [hf, Bool.true_or])]
            refine ⟨y1, lab, g, ?_, by rw [y2]; exact .of hch⟩
            have e4 : τ.updB x { τ.b x with failed := true } = τ := by
              have : ({ τ.b x with failed := true } : BlockS) = τ.b x := by rw [← hf]
              rw [this]; unfold ChipS.updB; rw [upd_self]
            rw [y2, e4]; exact hR
          | false =>
            rw [if_neg (by simp [hf])] at hy
            obtain ⟨y1, lab', g', y2, y3⟩ := hy
            rw [ew, if_neg (by simp [hf, hae])]
            refine ⟨y1, lab', g', ?_, (Lx.of hch).trans y3⟩
            have e4 : ({ τ.b x with failed := false } : BlockS) = τ.b x := by rw [← hf]
            rw [e4]; exact y2
      · have ew : σ.erase x = (7, σ.step.2) := by
          unfold ChipS.erase; rw [if_neg (fun h => h ⟨x0, x1⟩), if_neg (by simp [ho]), if_pos hst]
          unfold ChipS.step at hst ⊢
          split
          · split
            · rfl
            · rename_i q1 q2; rw [if_pos q1, if_neg q2] at hst; exact absurd rfl hst
          · rename_i q1; rw [if_neg q1] at hst; exact absurd rfl hst
        rw [ew]
        simp (disch := omega) only [Option.bind_some, Option.map_some, cond_true, cond_false, wrap_i64, tmod_pos, tdiv_pos, inRange_yes, inUpto_yes, isZero_no, decide_eq_true, decide_eq_false, Bool.not_true, Bool.not_false, Int.toNat_natCast, Nat.mul_one, beqI_yes, beqI_no, bneI_yes, bneI_no, isNil_nil, isNil_iface, wr_wr, Option.isNone_none, Option.isNone_some, plus, Nat.zero_add, Nat.add_zero, decide_eq_true (show 0 ≤ x ∧ x < 12 from ⟨x0, x1⟩), h.ldOn, ho, s1, decide_eq_false hst]
        exact .some ⟨rfl, lab, g, hR, .of hch⟩
  · have ew : σ.erase x = (1, σ) := by unfold ChipS.erase; rw [if_pos hx]
    rw [ew]
    simp (disch := omega) only [Option.bind_some, Option.map_some, cond_true, cond_false, wrap_i64, tmod_pos, tdiv_pos, inRange_yes, inUpto_yes, isZero_no, decide_eq_true, decide_eq_false, Bool.not_true, Bool.not_false, Int.toNat_natCast, Nat.mul_one, beqI_yes, beqI_no, bneI_yes, bneI_no, isNil_nil, isNil_iface, wr_wr, Option.isNone_none, Option.isNone_some, plus, Nat.zero_add, Nat.add_zero, decide_eq_false hx]
    exact .some ⟨rfl, lab, g, h, .refl _ _⟩
end
end Go.Proofs.Ytlbbcgjfkpnilaa
