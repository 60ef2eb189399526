/- The plain laws of layer 4 over the printed functions: each law's function answers true at every input. -/
import Derived.Test.YtnilidpafijdlaaGeo
set_option linter.unusedVariables false
set_option linter.unusedSimpArgs false
namespace Go.Proofs.Ytnilidpafijdlaa
open Go.Mx

theorem code_0 (k : Nat) (m : Mem) : patinalaw00_Code k Value.nilIface m = some (0, m) := rfl
theorem code_1 (k : Nat) (m : Mem) : patinalaw00_Code k (Value.iface 55 (Value.int .i64 1)) m = some (1, m) := rfl
theorem up_true (k : Nat) (m : Mem) : patinalaw04_up k m = some (true, m) := rfl

theorem ge_lt (a b : Int) : decide (a ≥ b) = !decide (a < b) := by
  by_cases h : a < b
  · simp [h, Int.not_le.2 h]
  · simp [h, Int.not_lt.1 h]
theorem gt_le (a b : Int) : decide (a > b) = !decide (a ≤ b) := by
  by_cases h : a ≤ b
  · simp [h, Int.not_lt.2 h]
  · simp [h, Int.not_le.1 h]

theorem is_eq (k : Nat) (p : Int) (m : Mem) : patinaref04_Is k p m = geom_is k p m := by
  unfold patinaref04_Is geom_is
  have h : decide (p ≤ 95) = decide (p < 96) := by
    apply decide_eq_decide.2; omega
  rw [h]

theorem is_mem (k : Nat) (p : Int) (m : Mem) : ∃ b, geom_is k p m = some (b, m) := by
  unfold geom_is
  cases decide (p ≥ 0) <;> exact ⟨_, rfl⟩

theorem geomHolds_true (k : Nat) (p0 p1 : Int) (m : Mem) : patinalaw04_GeomHolds k p0 p1 m = some (true, m) := by
  unfold patinalaw04_GeomHolds geom_Holds patinaref04_Holds
  obtain ⟨b, hb⟩ := is_mem k p0 m
  simp only [up_true, is_eq, hb, Option.bind_some]
  cases b <;> simp only [Bool.not_false, Bool.not_true, cond_true, cond_false, Option.bind_some, code_0, code_1, beq_self_eq_true, hb]
  cases decide (p1 < 0) <;> simp only [hb, Bool.not_false, Bool.not_true, cond_true, cond_false, Option.bind_some, code_0, code_1, beq_self_eq_true]
  cases decide (p1 > 24) <;> simp only [hb, Bool.not_false, Bool.not_true, cond_true, cond_false, Option.bind_some, code_0, code_1, beq_self_eq_true]
  cases p1 == 24 <;> simp only [hb, Bool.not_false, Bool.not_true, cond_true, cond_false, Option.bind_some, code_0, code_1, beq_self_eq_true]

theorem geomOns_true (k : Nat) (p0 p1 : Int) (m : Mem) : patinalaw04_GeomOns k p0 p1 m = some (true, m) := by
  unfold patinalaw04_GeomOns geom_On patinaref04_On
  obtain ⟨b, hb⟩ := is_mem k p0 m
  simp only [up_true, is_eq, hb, Option.bind_some]
  cases b <;> simp only [Bool.not_false, Bool.not_true, cond_true, cond_false, Option.bind_some, code_0, code_1, beq_self_eq_true, hb]

theorem geomPlaces_true (k : Nat) (p0 p1 p2 : Int) (m : Mem) : patinalaw04_GeomPlaces k p0 p1 p2 m = some (true, m) := by
  unfold patinalaw04_GeomPlaces geom_Place patinaref04_Place geom_Parts patinaref04_Parts
  obtain ⟨b, hb⟩ := is_mem k p2 m
  have e1 : decide (p0 > 11) = decide (p0 ≥ 12) := decide_eq_decide.2 (by omega)
  have e2 : decide (p1 > 7) = decide (p1 ≥ 8) := decide_eq_decide.2 (by omega)
  have e3 : 8 * p0 = p0 * 8 := Int.mul_comm _ _
  simp only [e1, e2, e3]
  simp only [up_true, is_eq, Option.bind_some]
  cases decide (p0 < 0) <;> cases decide (p0 ≥ 12) <;> cases decide (p1 < 0) <;> cases decide (p1 ≥ 8) <;> cases b <;> simp only [hb, Bool.not_false, Bool.not_true, cond_true, cond_false, Option.bind_some, code_0, code_1, beq_self_eq_true]

theorem geomBits_true (k : Nat) (p0 : Int) (m : Mem) : patinalaw04_GeomBits k p0 m = some (true, m) := by
  unfold patinalaw04_GeomBits geom_Bit patinaref04_Bit
  have e1 : decide (p0 > 2047) = decide (p0 ≥ 2048) := decide_eq_decide.2 (by omega)
  simp only [e1, up_true, Option.bind_some]
  cases decide (p0 < 0) <;> cases decide (p0 ≥ 2048) <;> simp only [Bool.not_false, Bool.not_true, cond_true, cond_false, Option.bind_some, code_0, code_1, beq_self_eq_true]

theorem geomHolds_run (a0 a1 : Int) (_ : (Lit.int .i64 a0).wf = true) (_ : (Lit.int .i64 a1).wf = true) : ∃ k m', patinalaw04_GeomHolds k a0 a1 [] = some (true, m') := ⟨0, _, geomHolds_true 0 a0 a1 []⟩
theorem geomOns_run (a0 a1 : Int) (_ : (Lit.int .i64 a0).wf = true) (_ : (Lit.int .i64 a1).wf = true) : ∃ k m', patinalaw04_GeomOns k a0 a1 [] = some (true, m') := ⟨0, _, geomOns_true 0 a0 a1 []⟩
theorem geomPlaces_run (a0 a1 a2 : Int) (_ : (Lit.int .i64 a0).wf = true) (_ : (Lit.int .i64 a1).wf = true) (_ : (Lit.int .i64 a2).wf = true) : ∃ k m', patinalaw04_GeomPlaces k a0 a1 a2 [] = some (true, m') := ⟨0, _, geomPlaces_true 0 a0 a1 a2 []⟩
theorem geomBits_run (a0 : Int) (_ : (Lit.int .i64 a0).wf = true) : ∃ k m', patinalaw04_GeomBits k a0 [] = some (true, m') := ⟨0, _, geomBits_true 0 a0 []⟩
end Go.Proofs.Ytnilidpafijdlaa
