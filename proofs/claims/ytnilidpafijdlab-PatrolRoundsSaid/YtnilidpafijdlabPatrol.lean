/- What the patrol's functions do. -/
import Derived.Test.YtnilidpafijdlabFpatrol
import Derived.Test.YtnilidpafijdlabGeom
set_option linter.unusedVariables false
set_option linter.unusedSimpArgs false
namespace Go.Proofs.Ytnilidpafijdlab
open Go.Mx

def patC (c n : Int) : List Value := [.int .i64 c, .int .i64 n]
theorem geom_On1_is (k : Nat) (c : Int) (m : Mem) (hc : 0 ≤ c ∧ c < 96) : geom_On k c 1 m = some ((c + 1) % 96, .nilIface, m) := by
  obtain ⟨h0, h1⟩ := hc
  unfold geom_On geom_is
  have e : (c + 1 % 96 + 96) % 96 = (c + 1) % 96 := by omega
  simp (disch := omega) only [Option.bind_some, Option.map_some, cond_true, cond_false, wrap_i64, tmod_pos, tdiv_pos, inRange_yes, inUpto_yes, isZero_no, decide_eq_true, decide_eq_false, Bool.not_true, Bool.not_false, Int.toNat_natCast, Nat.mul_one, beqI_yes, beqI_no, bneI_yes, bneI_no, isNil_nil, isNil_iface, wr_wr, Option.isNone_none, Option.isNone_some, plus, Nat.zero_add, Nat.add_zero, tmod_pos (show (0 : Int) ≤ 1 by omega), e]
theorem patrolNew_is (k : Nat) (c : Int) (m : Mem) (hc : 0 ≤ c ∧ c < 96) : patrol_New k c m = some (some ⟨m.length, 0, none⟩, .nilIface, m ++ [.live (patC c 0)]) := by
  unfold patrol_New
  rw [geom_Parts_is, if_pos hc]
  simp (disch := omega) only [Option.bind_some, Option.map_some, cond_true, cond_false, wrap_i64, tmod_pos, tdiv_pos, inRange_yes, inUpto_yes, isZero_no, decide_eq_true, decide_eq_false, Bool.not_true, Bool.not_false, Int.toNat_natCast, Nat.mul_one, beqI_yes, beqI_no, bneI_yes, bneI_no, isNil_nil, isNil_iface, wr_wr, Option.isNone_none, Option.isNone_some, plus, Nat.zero_add, Nat.add_zero]; rfl
theorem patrolNew_bad (k : Nat) (c : Int) (m : Mem) (hc : ¬ (0 ≤ c ∧ c < 96)) : patrol_New k c m = some (none, errC 1, m) := by
  unfold patrol_New
  rw [geom_Parts_is, if_neg hc]
  simp (disch := omega) only [Option.bind_some, Option.map_some, cond_true, cond_false, wrap_i64, tmod_pos, tdiv_pos, inRange_yes, inUpto_yes, isZero_no, decide_eq_true, decide_eq_false, Bool.not_true, Bool.not_false, Int.toNat_natCast, Nat.mul_one, beqI_yes, beqI_no, bneI_yes, bneI_no, isNil_nil, isNil_iface, wr_wr, Option.isNone_none, Option.isNone_some, plus, Nat.zero_add, Nat.add_zero, isNil_errC]
section
variable (k : Nat) {m : Mem} {p : Nat} {c n : Int} (h : m[p]? = some (.live (patC c n)))
include h
theorem patrol_Cursor_is : patrol_Patrol_Cursor k (some ⟨p, 0, none⟩) m = some (c, m) := by
  unfold patrol_Patrol_Cursor
  simp (disch := omega) only [Option.bind_some, Option.map_some, cond_true, cond_false, wrap_i64, tmod_pos, tdiv_pos, inRange_yes, inUpto_yes, isZero_no, decide_eq_true, decide_eq_false, Bool.not_true, Bool.not_false, Int.toNat_natCast, Nat.mul_one, beqI_yes, beqI_no, bneI_yes, bneI_no, isNil_nil, isNil_iface, wr_wr, Option.isNone_none, Option.isNone_some, plus, Nat.zero_add, Nat.add_zero, ldInt_of (sp := none) (off := 0) h rfl]
end
theorem patrol_Step_ok (k : Nat) (hk : 8 < k) {m : Mem} {p : Nat} {c n : Int} {F : Heap} (hO : Own m ((p, .live (patC c n)) :: F)) (hc : 0 ≤ c ∧ c < 96) (hn : 0 ≤ n ∧ n < 1000000000000000000) :
    Ok (patrol_Patrol_Step k (some ⟨p, 0, none⟩) m) fun r => ∃ b, r.1 = ⟨some ⟨b, 0, none⟩, 8, 8⟩ ∧ Own r.2 ((b, .live (arr .i64 8 fun q => (c + q) % 96)) :: (p, .live (patC ((c + 8) % 96) (n + 1))) :: F) := by
  unfold patrol_Patrol_Step
  have hO1 := hO.new (.live (repl (Int.toNat 8) [.int .i64 0]))
  rw [show repl (Int.toNat 8) [Value.int .i64 0] = arr .i64 8 (fun _ => 0) from repl_int] at hO1 ⊢
  simp (disch := omega) only [Option.bind_some, Option.map_some, cond_true, cond_false, wrap_i64, tmod_pos, tdiv_pos, inRange_yes, inUpto_yes, isZero_no, decide_eq_true, decide_eq_false, Bool.not_true, Bool.not_false, Int.toNat_natCast, Nat.mul_one, beqI_yes, beqI_no, bneI_yes, bneI_no, isNil_nil, isNil_iface, wr_wr, Option.isNone_none, Option.isNone_some, plus, Nat.zero_add, Nat.add_zero, show Int.toNat 8 = 8 from rfl]
  refine patrol_Patrol_Step_l0_rule k _ (fun d x0 x3a x3n x3c x7 x8 m' => some ⟨p, 0, none⟩ = x0 ∧ some ⟨m.length, 0, none⟩ = x3a ∧ 8 = x3n ∧ 8 = x3c ∧ 8 = x7 ∧ 0 ≤ x8 ∧ x8 + d = 8 ∧ ∃ f : Int → Int, (∀ q, 0 ≤ q → q < x8 → f q = (c + q) % 96) ∧
    Own m' ((m.length, .live (arr .i64 8 f)) :: (p, .live (patC ((c + x8) % 96) n)) :: F)) ?_ k 8 _ _ _ _ _ 0 _ hk ⟨rfl, rfl, rfl, rfl, rfl, by omega, by omega, _, fun q h1 h2 => by omega, by rw [show (c + 0) % 96 = c by omega]; exact hO1⟩
  rintro d nx _ _ _ _ _ i m' ⟨rfl, rfl, rfl, rfl, rfl, hi, hd, f, hf, hO⟩ hnx
  unfold patrol_Patrol_Step_l0_b
  by_cases h1 : i < 8
  · have l1 := ldInt_of (sp := none) (off := 0) (hO.at 1 rfl) rfl
    have hO2 := hO.wr 0 rfl (arr .i64 8 (upd f i ((c + i) % 96)))
    have l2 := ldInt_of (sp := none) (off := 0) (hO2.at 1 rfl) rfl
    have s2 := st_wr (sp := none) (off := 0) (v := .int .i64 (((c + i) % 96 + 1) % 96)) (hO2.at 1 rfl) (by simp [patC])
    have e : ((c + i) % 96 + 1) % 96 = (c + (i + 1)) % 96 := by omega
    simp (disch := omega) only [Option.bind_some, Option.map_some, cond_true, cond_false, wrap_i64, tmod_pos, tdiv_pos, inRange_yes, inUpto_yes, isZero_no, decide_eq_true, decide_eq_false, Bool.not_true, Bool.not_false, Int.toNat_natCast, Nat.mul_one, beqI_yes, beqI_no, bneI_yes, bneI_no, isNil_nil, isNil_iface, wr_wr, Option.isNone_none, Option.isNone_some, plus, Nat.zero_add, Nat.add_zero, l1, arr_st (hO.at 0 rfl), l2, geom_On1_is k ((c + i) % 96) _ (by omega), s2]
    refine hnx (d - 1) _ _ _ _ _ _ _ (by omega) ⟨rfl, rfl, rfl, rfl, rfl, by omega, by omega, upd f i ((c + i) % 96), fun q h2 h3 => ?_, ?_⟩
    · have := hf q h2
      unfold upd
      by_cases h4 : q = i
      · subst h4; simp
      · simp only [h4, if_false]; exact this (by omega)
    · have := hO2.wr 1 rfl ((patC ((c + i) % 96) n).set 0 (.int .i64 (((c + i) % 96 + 1) % 96)))
      rw [e] at this ⊢
      exact this
  · have : i = 8 := by omega
    subst this
    have l1 := ldInt_of (sp := none) (off := 1) (hO.at 1 rfl) rfl
    have s2 := st_wr (sp := none) (off := 1) (v := .int .i64 (n + 1)) (hO.at 1 rfl) (by simp [patC])
    simp (disch := omega) only [Option.bind_some, Option.map_some, cond_true, cond_false, wrap_i64, tmod_pos, tdiv_pos, inRange_yes, inUpto_yes, isZero_no, decide_eq_true, decide_eq_false, Bool.not_true, Bool.not_false, Int.toNat_natCast, Nat.mul_one, beqI_yes, beqI_no, bneI_yes, bneI_no, isNil_nil, isNil_iface, wr_wr, Option.isNone_none, Option.isNone_some, plus, Nat.zero_add, Nat.add_zero, l1, s2]
    refine .some ⟨_, rfl, ?_⟩
    have := hO.wr 1 rfl ((patC ((c + 8) % 96) n).set 1 (.int .i64 (n + 1)))
    rw [arr_congr (f := f) (g := fun q => (c + q) % 96) (fun q h2 h3 => hf q h2 (by omega))] at this
    exact this
end Go.Proofs.Ytnilidpafijdlab
