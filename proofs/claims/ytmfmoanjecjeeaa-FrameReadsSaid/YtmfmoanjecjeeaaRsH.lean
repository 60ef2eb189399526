/- What a codec's functions do: a word is decoded. -/
import Derived.Test.YtmfmoanjecjeeaaRsG
set_option linter.unusedVariables false
set_option linter.unusedSectionVars false
set_option linter.unusedSimpArgs false
namespace Go.Proofs.Ytmfmoanjecjeeaa
open Go.Mx

theorem put_flip (w : Nat → GF) (i : Nat) (e : GF) : put w i (w i + e) = GF.flip w i e := by
  funext k
  unfold put GF.flip
  by_cases h : k = i
  · subst h; rw [if_pos rfl]
  · rw [if_neg h, if_neg h]
theorem v_beq0 (a : GF) : ((a.v : Int) == 0) = decide (a = 0) := by
  by_cases h : a = 0
  · subst h; rfl
  · rw [decide_eq_false h]; exact beqI_no (by have := GF.v_ne h; omega)
theorem v_bne0 (a : GF) : ((a.v : Int) != 0) = !decide (a = 0) := by unfold bne; rw [v_beq0]
theorem v_beq (a b : GF) : ((a.v : Int) == (b.v : Int)) = decide (a = b) := by
  by_cases h : a = b
  · subst h; simp
  · rw [decide_eq_false h]
    refine beqI_no fun h2 => h (GF.v_inj (by omega))
theorem v_bne (a b : GF) : ((a.v : Int) != (b.v : Int)) = !decide (a = b) := by unfold bne; rw [v_beq]

theorem bys_succ (n : Nat) (w : Nat → GF) : bys (n + 1) w = .int .u8 ((w 0).v : Int) :: bys n fun i => w (i + 1) := by
  apply List.ext_getElem?
  intro k
  cases k with
  | zero => rw [bys_get (by omega), List.getElem?_cons_zero]
  | succ k =>
    rw [List.getElem?_cons_succ]
    by_cases h : k < n
    · rw [bys_get (by omega), bys_get h]
    · rw [List.getElem?_eq_none (by rw [bys_len]; omega), List.getElem?_eq_none (by rw [bys_len]; omega)]
theorem cellsEq_bys : ∀ (n : Nat) (u w : Nat → GF), cellsEq (List.replicate n (.int .u8)) (bys n u) (bys n w) = some (decide (∀ i, i < n → u i = w i))
  | 0, u, w => by rw [decide_eq_true (fun i hi => by omega)]; rfl
  | n + 1, u, w => by
    rw [bys_succ, bys_succ, List.replicate_succ]
    have h1 : cellEq (.int .u8) (.int .u8 ((u 0).v : Int)) (.int .u8 ((w 0).v : Int)) = some (decide (u 0 = w 0)) := by
      show (if IntKind.u8 = IntKind.u8 ∧ IntKind.u8 = IntKind.u8 then some (((u 0).v : Int) == ((w 0).v : Int)) else none) = _
      rw [if_pos ⟨rfl, rfl⟩, v_beq]
    simp only [cellsEq, h1, Option.bind_some, List.length_replicate, bys_len, Nat.beq_refl, Bool.and_self, cond_true, cellsEq_bys n]
    by_cases h0 : u 0 = w 0
    · rw [decide_eq_true h0, cond_true]
      congr 1
      apply decide_eq_decide.2
      constructor
      · intro h i hi
        cases i with
        | zero => exact h0
        | succ i => exact h i (by omega)
      · exact fun h i hi => h (i + 1) (by omega)
    · rw [decide_eq_false h0, cond_false]
      congr 1
      exact (decide_eq_false fun h => h0 (h 0 (by omega))).symm
theorem eqK6 : eqK tt 76 = List.replicate 6 (.int .u8) := by kernel_rfl
theorem syn_zero (u : Nat → GF) : ∃ b, cellsEq (eqK tt 76) (bys 6 u) (bys 6 fun _ => 0) = some b ∧ (b = true ↔ ∀ i, i < 6 → u i = 0) := by
  rw [eqK6, cellsEq_bys]
  exact ⟨_, rfl, decide_eq_true_iff⟩

section
variable (k : Nat) (hk : 1000 < k) {m : Mem} {c d : Nat} {w : Nat → GF} {sp : Option Nat} {cc : Nat} (hC : Cod m c) (hw : m[d]? = some (.live (bys 64 w))) (hcd : d ≠ c) (hne : ∀ f : Nat, m[f]? = some (.live fldR) → d ≠ f)
include hk hC hw

theorem one_ok (s : Nat → GF) : Ok (rs_Codec_one k (some ⟨c, 0, none⟩) (some ⟨d, 0, sp⟩) 64 cc (bys 6 s) m) fun r => (GF.oneOk s ∧ r.1 = 1 ∧ Gr (wr m d (bys 64 (GF.flip w (63 - GF.lg (GF.div (s 1) (s 0))) (s 0)))) r.2) ∨ (¬ GF.oneOk s ∧ r.1 = 0 ∧ Gr m r.2) := by
  obtain ⟨f, b, c1, c2, c3⟩ := hC
  unfold rs_Codec_one
  have hb : Nat.beq (bys 6 s).length 6 = true := by rw [bys_len]; rfl
  have hg : Gr m (m ++ [.live (bys 6 s)]) := Gr.app _ _
  have hl := get_last (m := m) (o := .live (bys 6 s)) rfl
  have l0 := bys_ld (sp := none) hl (i := 0) (by omega)
  have l1 := bys_ld (sp := none) hl (i := 1) (by omega)
  have t0 : Int.toNat 0 = 0 := rfl
  have t1 : Int.toNat 1 = 1 := rfl
  simp (disch := omega) only [Option.bind_some, Option.map_some, cond_true, cond_false, wrap_i64, tmod_pos, tdiv_pos, inRange_yes, inUpto_yes, isZero_no, decide_eq_true, decide_eq_false, Bool.not_true, Bool.not_false, Int.toNat_natCast, Nat.mul_one, beqI_yes, beqI_no, bneI_yes, bneI_no, isNil_nil, isNil_iface, wr_wr, Option.isNone_none, Option.isNone_some, plus, Nat.zero_add, Nat.add_zero, hb, t0, l0, t1, l1, v_beq0]
  by_cases h0 : s 0 = 0
  · rw [decide_eq_true h0, cond_true]
    exact .some (.inr ⟨fun h => h.1 h0, rfl, hg⟩)
  rw [decide_eq_false h0, cond_false]
  by_cases h1 : s 1 = 0
  · rw [decide_eq_true h1, cond_true]
    exact .some (.inr ⟨fun h => h.2.1 h1, rfl, hg⟩)
  rw [decide_eq_false h1, cond_false]
  have hdiv := div_is k (hg.get c2) (s 1) (s 0)
  rw [if_neg h0] at hdiv
  have p1 : ldPtr (m ++ [.live (bys 6 s)]) ⟨c, 0, none⟩ = some (some ⟨f, 0, none⟩) := ldPtr_of (hg.get c1) rfl
  simp (disch := omega) only [Option.bind_some, Option.map_some, cond_true, cond_false, wrap_i64, tmod_pos, tdiv_pos, inRange_yes, inUpto_yes, isZero_no, decide_eq_true, decide_eq_false, Bool.not_true, Bool.not_false, Int.toNat_natCast, Nat.mul_one, beqI_yes, beqI_no, bneI_yes, bneI_no, isNil_nil, isNil_iface, wr_wr, Option.isNone_none, Option.isNone_some, plus, Nat.zero_add, Nat.add_zero, p1, hdiv]
  generalize hx : GF.div (s 1) (s 0) = x at *
  have hx0 : x ≠ 0 := fun h => by
    have := GF.div_mul (a := s 1) h0
    rw [hx, h, GF.zero_mul] at this
    exact h1 this.symm
  refine rs_Codec_one_l0_rule k _ _ (fun r x0 x1a x1n x1c x5 x7 x9 m' => (some ⟨c, 0, none⟩ : Option Addr) = x0 ∧ (some ⟨d, 0, sp⟩ : Option Addr) = x1a ∧ 64 = x1n ∧ cc = x1c ∧ ⟨m.length, 0, none⟩ = x5 ∧ (x.v : Int) = x7 ∧ m ++ [.live (bys 6 s)] = m' ∧ ∃ j : Nat, x9 = j ∧ j + r = 6 ∧ 1 ≤ j ∧ ∀ i, 1 ≤ i → i < j → s (i - 1) * x = s i) ?_ k 5 _ _ _ _ _ _ _ _ (by omega)
    ⟨rfl, rfl, rfl, rfl, rfl, rfl, rfl, 1, rfl, by omega, by omega, fun i h2 h3 => by omega⟩
  rintro r nx _ _ _ _ _ _ _ _ ⟨rfl, rfl, rfl, rfl, rfl, rfl, rfl, j, rfl, hr, hj1, hs⟩ hnx
  unfold rs_Codec_one_l0_b
  by_cases hj : (j : Int) < 6
  · have e1 := bys_ld (sp := none) hl (i := j - 1) (by omega)
    have e2 := bys_ld (sp := none) hl (i := j) (by omega)
    have e3 := mul_is k (hg.get c2) (s (j - 1)) x
    have tj : ((j : Int) - 1).toNat = j - 1 := by omega
    have hi : inRange ((j : Int) - 1) 6 = true := inRange_yes (by omega) (by omega)
    simp (disch := omega) only [Option.bind_some, Option.map_some, cond_true, cond_false, wrap_i64, tmod_pos, tdiv_pos, inRange_yes, inUpto_yes, isZero_no, decide_eq_true, decide_eq_false, Bool.not_true, Bool.not_false, Int.toNat_natCast, Nat.mul_one, beqI_yes, beqI_no, bneI_yes, bneI_no, isNil_nil, isNil_iface, wr_wr, Option.isNone_none, Option.isNone_some, plus, Nat.zero_add, Nat.add_zero, p1, hi, tj, e1, e3, e2, beq_self_eq_true, v_bne]
    by_cases h2 : s (j - 1) * x = s j
    · rw [decide_eq_true h2]
      simp (disch := omega) only [Option.bind_some, Option.map_some, cond_true, cond_false, wrap_i64, tmod_pos, tdiv_pos, inRange_yes, inUpto_yes, isZero_no, decide_eq_true, decide_eq_false, Bool.not_true, Bool.not_false, Int.toNat_natCast, Nat.mul_one, beqI_yes, beqI_no, bneI_yes, bneI_no, isNil_nil, isNil_iface, wr_wr, Option.isNone_none, Option.isNone_some, plus, Nat.zero_add, Nat.add_zero]
      refine hnx (r - 1) _ _ _ _ _ _ _ _ (by omega) ⟨rfl, rfl, rfl, rfl, rfl, rfl, rfl, j + 1, by omega, by omega, by omega, fun i h3 h4 => ?_⟩
      by_cases h5 : i = j
      · rw [h5]; exact h2
      · exact hs i h3 (by omega)
    · rw [decide_eq_false h2]
      simp (disch := omega) only [Option.bind_some, Option.map_some, cond_true, cond_false, wrap_i64, tmod_pos, tdiv_pos, inRange_yes, inUpto_yes, isZero_no, decide_eq_true, decide_eq_false, Bool.not_true, Bool.not_false, Int.toNat_natCast, Nat.mul_one, beqI_yes, beqI_no, bneI_yes, bneI_no, isNil_nil, isNil_iface, wr_wr, Option.isNone_none, Option.isNone_some, plus, Nat.zero_add, Nat.add_zero]
      exact .some (.inr ⟨fun h => h2 (by have := h.2.2.1 j hj1 (by omega); rwa [hx] at this), rfl, hg⟩)
  · obtain rfl : j = 6 := by omega
    have e1 := log_is k (hg.get c2) hx0
    simp (disch := omega) only [Option.bind_some, Option.map_some, cond_true, cond_false, wrap_i64, tmod_pos, tdiv_pos, inRange_yes, inUpto_yes, isZero_no, decide_eq_true, decide_eq_false, Bool.not_true, Bool.not_false, Int.toNat_natCast, Nat.mul_one, beqI_yes, beqI_no, bneI_yes, bneI_no, isNil_nil, isNil_iface, wr_wr, Option.isNone_none, Option.isNone_some, plus, Nat.zero_add, Nat.add_zero, p1, e1]
    by_cases h2 : (GF.lg x : Int) ≥ 64
    · simp (disch := omega) only [Option.bind_some, Option.map_some, cond_true, cond_false, wrap_i64, tmod_pos, tdiv_pos, inRange_yes, inUpto_yes, isZero_no, decide_eq_true, decide_eq_false, Bool.not_true, Bool.not_false, Int.toNat_natCast, Nat.mul_one, beqI_yes, beqI_no, bneI_yes, bneI_no, isNil_nil, isNil_iface, wr_wr, Option.isNone_none, Option.isNone_some, plus, Nat.zero_add, Nat.add_zero]
      exact .some (.inr ⟨fun h => by have := h.2.2.2; rw [hx] at this; omega, rfl, hg⟩)
    · have tp : (63 - (GF.lg x : Int)).toNat = 63 - GF.lg x := by omega
      have hi : inRange (63 - (GF.lg x : Int)) 64 = true := inRange_yes (by omega) (by omega)
      have e2 := bys_ld (sp := sp) (hg.get hw) (i := 63 - GF.lg x) (by omega)
      have e3 := bys_st (sp := sp) (hg.get hw) (i := 63 - GF.lg x) (by omega) (w (63 - GF.lg x) + s 0)
      rw [wr_app (get_lt hw), put_flip] at e3
      simp (disch := omega) only [Option.bind_some, Option.map_some, cond_true, cond_false, wrap_i64, tmod_pos, tdiv_pos, inRange_yes, inUpto_yes, isZero_no, decide_eq_true, decide_eq_false, Bool.not_true, Bool.not_false, Int.toNat_natCast, Nat.mul_one, beqI_yes, beqI_no, bneI_yes, bneI_no, isNil_nil, isNil_iface, wr_wr, Option.isNone_none, Option.isNone_some, plus, Nat.zero_add, Nat.add_zero, rs_place, tp, hi, e2, l0, xor_v, e3, beq_self_eq_true]
      refine .some (.inl ⟨⟨h0, h1, by rw [hx]; exact hs, by rw [hx]; omega⟩, rfl, ?_⟩)
      exact Gr.app _ _

omit hk hC hw in
theorem roots_succ (a b : GF) (n : Nat) : GF.roots a b (n + 1) = GF.roots a b n ++ (if GF.isRoot a b n = true then [n] else []) := by
  unfold GF.roots
  rw [List.range_succ, List.filter_append, List.filter_cons, List.filter_nil]
omit hk hC hw in
theorem roots_mono (a b : GF) {n n' : Nat} (h : n ≤ n') : (GF.roots a b n).length ≤ (GF.roots a b n').length := by
  induction n' with
  | zero => rw [show n = 0 by omega]; exact Nat.le_refl _
  | succ n' ih =>
    by_cases h1 : n = n' + 1
    · rw [h1]; exact Nat.le_refl _
    · have := ih (by omega)
      rw [roots_succ, List.length_append]; omega
omit hk hC hw in
theorem two_len {s : Nat → GF} (h : (GF.roots (GF.cA s) (GF.cB s) 64).length ≠ 2) : GF.two s = none := by
  unfold GF.two
  split
  · rfl
  · split
    · rename_i a b hr; rw [hr] at h; exact absurd rfl h
    · rfl

set_option maxHeartbeats 2000000 in
theorem two_ok (s : Nat → GF) : Ok (rs_Codec_two k (some ⟨c, 0, none⟩) (some ⟨d, 0, sp⟩) 64 cc (bys 6 s) m) fun r => (∃ k0 k1 e, GF.two s = some (k0, k1, e) ∧ r.1 = 2 ∧ Gr (wr m d (bys 64 (GF.flip (GF.flip w (63 - k0) e) (63 - k1) (e + s 0)))) r.2) ∨ (GF.two s = none ∧ r.1 = 0 ∧ Gr m r.2) := by
  obtain ⟨f, b, c1, c2, c3⟩ := hC
  unfold rs_Codec_two
  have hb : Nat.beq (bys 6 s).length 6 = true := by rw [bys_len]; rfl
  have hg : Gr m (m ++ [.live (bys 6 s)]) := Gr.app _ _
  have hl := get_last (m := m) (o := .live (bys 6 s)) rfl
  have l0 := bys_ld (sp := none) hl (i := 0) (by omega)
  have l1 := bys_ld (sp := none) hl (i := 1) (by omega)
  have l2 := bys_ld (sp := none) hl (i := 2) (by omega)
  have l3 := bys_ld (sp := none) hl (i := 3) (by omega)
  have t0 : Int.toNat 0 = 0 := rfl
  have t1 : Int.toNat 1 = 1 := rfl
  have t2 : Int.toNat 2 = 2 := rfl
  have t3 : Int.toNat 3 = 3 := rfl
  have p1 : ldPtr (m ++ [.live (bys 6 s)]) ⟨c, 0, none⟩ = some (some ⟨f, 0, none⟩) := ldPtr_of (hg.get c1) rfl
  have hm := mul_is k (hg.get c2)
  have hv := div_is k (hg.get c2)
  have hdet : s 1 * s 1 + s 0 * s 2 = GF.det s := rfl
  simp (disch := omega) only [Option.bind_some, Option.map_some, cond_true, cond_false, wrap_i64, tmod_pos, tdiv_pos, inRange_yes, inUpto_yes, isZero_no, decide_eq_true, decide_eq_false, Bool.not_true, Bool.not_false, Int.toNat_natCast, Nat.mul_one, beqI_yes, beqI_no, bneI_yes, bneI_no, isNil_nil, isNil_iface, wr_wr, Option.isNone_none, Option.isNone_some, plus, Nat.zero_add, Nat.add_zero, hb, t0, l0, t1, l1, t2, l2, t3, l3, p1, hm, xor_v, beq_self_eq_true, hdet, hv]
  by_cases hd : GF.det s = 0
  · have h2 : GF.two s = none := by unfold GF.two; rw [if_pos hd]
    rw [if_pos hd]
    have e4 : isNil (errC 4) = some false := rfl
    simp (disch := omega) only [Option.bind_some, Option.map_some, cond_true, cond_false, wrap_i64, tmod_pos, tdiv_pos, inRange_yes, inUpto_yes, isZero_no, decide_eq_true, decide_eq_false, Bool.not_true, Bool.not_false, Int.toNat_natCast, Nat.mul_one, beqI_yes, beqI_no, bneI_yes, bneI_no, isNil_nil, isNil_iface, wr_wr, Option.isNone_none, Option.isNone_some, plus, Nat.zero_add, Nat.add_zero, e4]
    exact .some (.inr ⟨h2, rfl, hg⟩)
  rw [if_neg hd]
  simp (disch := omega) only [Option.bind_some, Option.map_some, cond_true, cond_false, wrap_i64, tmod_pos, tdiv_pos, inRange_yes, inUpto_yes, isZero_no, decide_eq_true, decide_eq_false, Bool.not_true, Bool.not_false, Int.toNat_natCast, Nat.mul_one, beqI_yes, beqI_no, bneI_yes, bneI_no, isNil_nil, isNil_iface, wr_wr, Option.isNone_none, Option.isNone_some, plus, Nat.zero_add, Nat.add_zero, hb, t0, l0, t1, l1, t2, l2, t3, l3, p1, hm, xor_v, beq_self_eq_true, hdet, hv]
  rw [if_neg hd]
  have ha : GF.div (s 1 * s 2 + s 0 * s 3) (GF.det s) = GF.cA s := rfl
  have hbb : GF.div (s 2 * s 2 + s 1 * s 3) (GF.det s) = GF.cB s := rfl
  have hlen : (m ++ [MObj.live (bys 6 s)]).length = m.length + 1 := by simp
  simp (disch := omega) only [Option.bind_some, Option.map_some, cond_true, cond_false, wrap_i64, tmod_pos, tdiv_pos, inRange_yes, inUpto_yes, isZero_no, decide_eq_true, decide_eq_false, Bool.not_true, Bool.not_false, Int.toNat_natCast, Nat.mul_one, beqI_yes, beqI_no, bneI_yes, bneI_no, isNil_nil, isNil_iface, wr_wr, Option.isNone_none, Option.isNone_some, plus, Nat.zero_add, Nat.add_zero, ha, hbb, hlen]
  have htwo : ∀ L : List Nat, GF.roots (GF.cA s) (GF.cB s) 64 = L → GF.two s = match L with
      | [k0, k1] => if GF.part s k0 k1 = 0 ∨ GF.part s k0 k1 = s 0 then none else some (k0, k1, GF.part s k0 k1)
      | _ => none := by
    rintro L rfl
    unfold GF.two
    rw [if_neg hd]
    rcases GF.roots (GF.cA s) (GF.cB s) 64 with _ | ⟨a, _ | ⟨b, _ | _⟩⟩ <;> rfl
  have hlong := two_len (s := s)
  have hnd := GF.roots_nodup (GF.cA s) (GF.cB s) 64
  have hmem := fun k => GF.roots_mem (a := GF.cA s) (b := GF.cB s) (n := 64) (k := k)
  have hmono := fun n (h : n ≤ 64) => roots_mono (GF.cA s) (GF.cB s) h
  have hsucc := roots_succ (GF.cA s) (GF.cB s)
  generalize GF.cA s = A at *
  generalize GF.cB s = B at *
  refine rs_Codec_two_l0_rule k _ _ (fun r x1a x1n x1c x5 x7 x9 x11 x12 x13 x78 m' => (some ⟨d, 0, sp⟩ : Option Addr) = x1a ∧ 64 = x1n ∧ cc = x1c ∧ ⟨m.length, 0, none⟩ = x5 ∧ (some ⟨f, 0, none⟩ : Option Addr) = x7 ∧ (A.v : Int) = x9 ∧ (B.v : Int) = x11 ∧ ⟨m.length + 1, 0, none⟩ = x12 ∧ ∃ i : Nat, x78 = i ∧ i + r = 64 ∧ (GF.roots A B i).length ≤ 2 ∧ ((GF.roots A B i).length : Int) = x13 ∧ m' = m ++ [.live (bys 6 s)] ++ [.live [.int .i64 ((GF.roots A B i).getD 0 0 : Nat), .int .i64 ((GF.roots A B i).getD 1 0 : Nat)]]) ?_ k 64 _ _ _ _ _ _ _ _ _ _ _ (by omega)
    ⟨rfl, rfl, rfl, rfl, rfl, rfl, rfl, rfl, 0, rfl, by omega, by simp [GF.roots], by simp [GF.roots], by simp [GF.roots]⟩
  rintro r nx _ _ _ _ _ _ _ _ _ _ _ ⟨rfl, rfl, rfl, rfl, rfl, rfl, rfl, rfl, i, rfl, hr, hL, rfl, rfl⟩ hnx
  unfold rs_Codec_two_l0_b
  generalize hm1 : m ++ [MObj.live (bys 6 s)] = m1 at *
  by_cases hi : (i : Int) < 64
  · have hs1 := hsucc i
    generalize GF.roots A B i = L at *
    have hG : Gr m1 (m1 ++ [.live [.int .i64 (L.getD 0 0 : Nat), .int .i64 (L.getD 1 0 : Nat)]]) := Gr.app _ _
    have hf := hG.get (hg.get c2)
    have e1 := exp_is k hf i (by omega)
    have e2 := mul_is k hf
    simp (disch := omega) only [Option.bind_some, Option.map_some, cond_true, cond_false, wrap_i64, tmod_pos, tdiv_pos, inRange_yes, inUpto_yes, isZero_no, decide_eq_true, decide_eq_false, Bool.not_true, Bool.not_false, Int.toNat_natCast, Nat.mul_one, beqI_yes, beqI_no, bneI_yes, bneI_no, isNil_nil, isNil_iface, wr_wr, Option.isNone_none, Option.isNone_some, plus, Nat.zero_add, Nat.add_zero, e1, e2, xor_v, v_bne0]
    have hroot : decide (GF.pw i * GF.pw i + A * GF.pw i + B = 0) = GF.isRoot A B i := rfl
    rw [hroot]
    cases hz : GF.isRoot A B i with
    | false =>
      rw [hz] at hs1
      simp only [Bool.false_eq_true, if_false, List.append_nil] at hs1
      simp (disch := omega) only [Option.bind_some, Option.map_some, cond_true, cond_false, wrap_i64, tmod_pos, tdiv_pos, inRange_yes, inUpto_yes, isZero_no, decide_eq_true, decide_eq_false, Bool.not_true, Bool.not_false, Int.toNat_natCast, Nat.mul_one, beqI_yes, beqI_no, bneI_yes, bneI_no, isNil_nil, isNil_iface, wr_wr, Option.isNone_none, Option.isNone_some, plus, Nat.zero_add, Nat.add_zero, rs_Codec_two_j1]
      exact hnx (r - 1) _ _ _ _ _ _ _ _ _ _ _ (by omega) ⟨rfl, rfl, rfl, rfl, rfl, rfl, rfl, rfl, i + 1, by omega, by omega, by rw [hs1]; exact hL, by rw [hs1], by rw [hs1]⟩
    | true =>
      rw [hz] at hs1
      simp only [if_true] at hs1
      by_cases h2 : L.length = 2
      · have h2' : ((L.length : Int) == 2) = true := beqI_yes (by omega)
        simp (disch := omega) only [Option.bind_some, Option.map_some, cond_true, cond_false, wrap_i64, tmod_pos, tdiv_pos, inRange_yes, inUpto_yes, isZero_no, decide_eq_true, decide_eq_false, Bool.not_true, Bool.not_false, Int.toNat_natCast, Nat.mul_one, beqI_yes, beqI_no, bneI_yes, bneI_no, isNil_nil, isNil_iface, wr_wr, Option.isNone_none, Option.isNone_some, plus, Nat.zero_add, Nat.add_zero, h2']
        refine .some (.inr ⟨hlong ?_, rfl, hg.trans hG⟩)
        have := hmono (i + 1) (by omega)
        rw [hs1, List.length_append] at this
        simp only [List.length_cons, List.length_nil] at this
        omega
      · have h2' : ((L.length : Int) == 2) = false := beqI_no (by omega)
        have hl1 := get_last (m := m1) (o := .live [.int .i64 (L.getD 0 0 : Nat), .int .i64 (L.getD 1 0 : Nat)]) hlen
        have e3 := st_wr (sp := none) (off := L.length) (v := .int .i64 i) hl1 (by simp; omega)
        rw [wr_last hlen] at e3
        simp (disch := omega) only [Option.bind_some, Option.map_some, cond_true, cond_false, wrap_i64, tmod_pos, tdiv_pos, inRange_yes, inUpto_yes, isZero_no, decide_eq_true, decide_eq_false, Bool.not_true, Bool.not_false, Int.toNat_natCast, Nat.mul_one, beqI_yes, beqI_no, bneI_yes, bneI_no, isNil_nil, isNil_iface, wr_wr, Option.isNone_none, Option.isNone_some, plus, Nat.zero_add, Nat.add_zero, h2', e3, rs_Codec_two_j1]
        refine hnx (r - 1) _ _ _ _ _ _ _ _ _ _ _ (by omega) ⟨rfl, rfl, rfl, rfl, rfl, rfl, rfl, rfl, i + 1, by omega, by omega, ?_, ?_, ?_⟩
        · rw [hs1, List.length_append]; simp; omega
        · rw [hs1, List.length_append]; simp
        · rw [hs1]
          match L, hL, h2 with
          | [], _, _ => rfl
          | [x], _, _ => rfl
          | [x, y], _, h => exact absurd rfl h
  · obtain rfl : i = 64 := by omega
    generalize hR : GF.roots A B 64 = L at *
    by_cases h2 : L.length = 2
    · match L, h2 with
      | [k0, k1], _ =>
        have htw := htwo _ rfl
        simp only at htw
        have q0 := ((hmem k0).1 (by simp)).1
        have q1 := ((hmem k1).1 (by simp)).1
        have hne : k0 ≠ k1 := by simpa using hnd
        have hX : GF.pw k0 + GF.pw k1 ≠ 0 := fun h => hne (GF.pw_inj (by omega) (by omega) (GF.add_eq_zero.1 h))
        have b2 : ((([k0, k1] : List Nat).length : Int) != 2) = false := rfl
        have g0 : ([k0, k1] : List Nat).getD 0 0 = k0 := rfl
        have g1 : ([k0, k1] : List Nat).getD 1 0 = k1 := rfl
        rw [g0, g1] at *
        have hG : Gr m1 (m1 ++ [.live [.int .i64 (k0 : Nat), .int .i64 (k1 : Nat)]]) := Gr.app _ _
        have hl1 := get_last (m := m1) (o := .live [.int .i64 (k0 : Nat), .int .i64 (k1 : Nat)]) hlen
        have a0 : ldInt .i64 (m1 ++ [.live [.int .i64 (k0 : Nat), .int .i64 (k1 : Nat)]]) ⟨m.length + 1, 0, none⟩ = some (k0 : Int) := ldInt_of hl1 rfl
        have a1 : ldInt .i64 (m1 ++ [.live [.int .i64 (k0 : Nat), .int .i64 (k1 : Nat)]]) ⟨m.length + 1, 1, none⟩ = some (k1 : Int) := ldInt_of hl1 rfl
        have hf := hG.get (hg.get c2)
        have e0 := exp_is k hf k0 (by omega)
        have e1 := exp_is k hf k1 (by omega)
        have e2 := mul_is k hf
        have e3 := div_is k hf (s 1 + s 0 * GF.pw k1) (GF.pw k0 + GF.pw k1)
        rw [if_neg hX] at e3
        have hp : GF.div (s 1 + s 0 * GF.pw k1) (GF.pw k0 + GF.pw k1) = GF.part s k0 k1 := rfl
        rw [hp] at e3
        have j0 := bys_ld (sp := none) (hG.get hl) (i := 0) (by omega)
        have j1 := bys_ld (sp := none) (hG.get hl) (i := 1) (by omega)
        simp (disch := omega) only [Option.bind_some, Option.map_some, cond_true, cond_false, wrap_i64, tmod_pos, tdiv_pos, inRange_yes, inUpto_yes, isZero_no, decide_eq_true, decide_eq_false, Bool.not_true, Bool.not_false, Int.toNat_natCast, Nat.mul_one, beqI_yes, beqI_no, bneI_yes, bneI_no, isNil_nil, isNil_iface, wr_wr, Option.isNone_none, Option.isNone_some, plus, Nat.zero_add, Nat.add_zero, b2, a0, a1, e0, e1, beq_self_eq_true, t0, t1, j0, j1, e2, xor_v, e3, v_beq0, v_beq]
        generalize GF.part s k0 k1 = e at *
        by_cases he0 : e = 0
        · rw [if_pos (.inl he0)] at htw
          rw [decide_eq_true he0, cond_true]
          exact .some (.inr ⟨htw, rfl, hg.trans hG⟩)
        rw [decide_eq_false he0, cond_false]
        by_cases he1 : e = s 0
        · rw [if_pos (.inr he1)] at htw
          rw [decide_eq_true he1, cond_true]
          exact .some (.inr ⟨htw, rfl, hg.trans hG⟩)
        rw [decide_eq_false he1, cond_false]
        rw [if_neg (fun h => h.elim he0 he1)] at htw
        have tp0 : (63 - (k0 : Int)).toNat = 63 - k0 := by omega
        have tp1 : (63 - (k1 : Int)).toNat = 63 - k1 := by omega
        have i0 : inRange (63 - (k0 : Int)) 64 = true := inRange_yes (by omega) (by omega)
        have i1 : inRange (63 - (k1 : Int)) 64 = true := inRange_yes (by omega) (by omega)
        have u0 := bys_ld (sp := sp) (hG.get (hg.get hw)) (i := 63 - k0) (by omega)
        have u1 := bys_st (sp := sp) (hG.get (hg.get hw)) (i := 63 - k0) (by omega) (w (63 - k0) + e)
        have hdlt := get_lt hw
        rw [wr_app (by rw [hlen]; omega), ← hm1, wr_app hdlt, put_flip] at u1
        have hM : (wr m d (bys 64 (GF.flip w (63 - k0) e))).length = m.length := wr_len
        have n0 : (wr m d (bys 64 (GF.flip w (63 - k0) e)) ++ [MObj.live (bys 6 s)])[m.length]? = some (.live (bys 6 s)) := get_last hM
        have n1 := get_last (m := wr m d (bys 64 (GF.flip w (63 - k0) e)) ++ [MObj.live (bys 6 s)]) (n := m.length + 1) (o := .live [.int .i64 (k0 : Nat), .int .i64 (k1 : Nat)]) (by simp [hM])
        have v0 := bys_ld (sp := none) (get_grow (g := [.live [.int .i64 (k0 : Nat), .int .i64 (k1 : Nat)]]) n0) (i := 0) (by omega)
        have v1 : ldInt .i64 (wr m d (bys 64 (GF.flip w (63 - k0) e)) ++ [MObj.live (bys 6 s)] ++ [.live [.int .i64 (k0 : Nat), .int .i64 (k1 : Nat)]]) ⟨m.length + 1, 1, none⟩ = some (k1 : Int) := ldInt_of n1 rfl
        have hw2 : (wr m d (bys 64 (GF.flip w (63 - k0) e)) ++ [MObj.live (bys 6 s)] ++ [MObj.live [.int .i64 (k0 : Nat), .int .i64 (k1 : Nat)]])[d]? = some (.live (bys 64 (GF.flip w (63 - k0) e))) := get_grow (get_grow (wr_get hw))
        have u2 := bys_ld (sp := sp) hw2 (i := 63 - k1) (by omega)
        have u3 := bys_st (sp := sp) hw2 (i := 63 - k1) (by omega) (GF.flip w (63 - k0) e (63 - k1) + (e + s 0))
        rw [wr_app (by simp [hM]; omega), wr_app (by rw [hM]; exact hdlt), wr_wr, put_flip] at u3
        rw [← hm1]
        rw [← hm1] at u0 a0
        simp (disch := omega) only [Option.bind_some, Option.map_some, cond_true, cond_false, wrap_i64, tmod_pos, tdiv_pos, inRange_yes, inUpto_yes, isZero_no, decide_eq_true, decide_eq_false, Bool.not_true, Bool.not_false, Int.toNat_natCast, Nat.mul_one, beqI_yes, beqI_no, bneI_yes, bneI_no, isNil_nil, isNil_iface, wr_wr, Option.isNone_none, Option.isNone_some, plus, Nat.zero_add, Nat.add_zero, rs_place, i0, tp0, u0, xor_v, u1, v1, i1, tp1, u2, v0, u3, beq_self_eq_true, a0]
        exact .some (.inl ⟨k0, k1, e, htw, rfl, (Gr.app _ _).trans (Gr.app _ _)⟩)
    · have b2 : ((L.length : Int) != 2) = true := bneI_yes (by omega)
      simp (disch := omega) only [Option.bind_some, Option.map_some, cond_true, cond_false, wrap_i64, tmod_pos, tdiv_pos, inRange_yes, inUpto_yes, isZero_no, decide_eq_true, decide_eq_false, Bool.not_true, Bool.not_false, Int.toNat_natCast, Nat.mul_one, beqI_yes, beqI_no, bneI_yes, bneI_no, isNil_nil, isNil_iface, wr_wr, Option.isNone_none, Option.isNone_some, plus, Nat.zero_add, Nat.add_zero, b2]
      exact .some (.inr ⟨hlong h2, rfl, hg.trans (Gr.app _ _)⟩)
end
end Go.Proofs.Ytmfmoanjecjeeaa
